/-
  Walks: the document's answer for drr (seawallref21): Push.
-/
import Derived.Test.YtdhmopmfnnlhcaaRef21b
namespace Go.Proofs.Ytdhmopmfnnlhcaa
open Go Go.RowKit

theorem ofF_has {s : Sd} (hok : Ok s) {l : List JX} (h : LFl l s.fl) {k : Nat} (hk : k < s.fl.length) : ofF l (k : Int) = [] ↔ k ∉ s.round := by
  rw [h.jobs k hk, hok.mem]
  constructor
  · intro e h2
    exact h2.2 e
  · intro h2
    apply Classical.byContradiction
    intro h3
    exact h2 ⟨hk, h3⟩
def wrongJ (n : Nat) (z c : Int) : Prop := z < 0 ∨ (n : Int) ≤ z ∨ c < 1 ∨ 100000 < c
instance (n : Nat) (z c : Int) : Decidable (wrongJ n z c) := inferInstanceAs (Decidable (_ ∨ _ ∨ _ ∨ _))
theorem RPush_ok (x : RfX) (s : Sd) (his : x.is s) (hok : Ok s) (j : JX) (w0 w : World) (L : List Asr) (M : Mem w0 w (x.L ++ L)) :
    Fn Try.prog 21 [.pointer (some ⟨x.g, 0, none⟩), j.v] w fun v w' => ∃ x' : RfX, v = .int .i64 (pushE s j) ∧ x.g = x'.g ∧ x'.is (pushS s j) ∧ Mem w0 w' (x'.L ++ L) := by
  obtain ⟨g, As, cs, sh, Ac, cc, cd, Al, cl, l, Ar, cr, round, turn⟩ := x
  obtain ⟨jf, jc, ji⟩ := j
  obtain ⟨h1, h2, h3, h4, h5⟩ := his
  dsimp only at h1 h2 h3 h4 h5
  have hlen := hok.len
  have htot := hok.total
  have hl0 := h5.len
  have hsl : sh.length = s.fl.length := by rw [h1]; simp
  have hrl : round.length ≤ 100 := by
    have := nodup_lt' s.fl.length round (h3 ▸ hok.nodup) (fun y hy => by rw [h3] at hy; exact ((hok.mem y).1 hy).1)
    omega
  have hrl2 : (ints round).length = round.length := by simp
  have M1 := M
  unfold RfX.L RfX.row at M
  simp only [List.cons_append, List.nil_append] at M
  unfold JX.v
  dsimp only at M ⊢
  have bad : ∀ e : Int, e ≠ 0 → pushE s ⟨jf, jc, ji⟩ = e → ∀ w', Mem w0 w' (RfX.L ⟨g, As, cs, sh, Ac, cc, cd, Al, cl, l, Ar, cr, round, turn⟩ ++ L) → ∃ x' : RfX, Value.int .i64 e = .int .i64 (pushE s ⟨jf, jc, ji⟩) ∧ g = x'.g ∧ x'.is (pushS s ⟨jf, jc, ji⟩) ∧ Mem w0 w' (x'.L ++ L) := by
    intro e he hp w' M'
    exact ⟨_, by rw [hp], rfl, by rw [pushS_no (by rw [hp]; exact he)]; exact ⟨h1, h2, h3, h4, h5⟩, M'⟩
  refine Fn.enter Try.func21 rfl Try.ntmps21 rfl ?_
  refine W.sub [(0, _), (1, _)] (.cons rfl (.cons rfl .nil)) ?_
  refine W.seq ?_
  refine W.region ?_
  refine WL.box rfl M rfl ?_
  intro g0_0 w M
  try simp only [Value.cells] at M
  try simp only [List.toList_toArray] at M
  refine WL.assign rfl rfl ?_
  refine WL.nil ?_
  refine WX.next ?_
  refine W.sub [(0, _), (3, _)] (.cons rfl (.cons rfl .nil)) ?_
  refine W.seq ?_
  refine W.block ?_
  refine W.joint (fun (_ : Unit) => [(0, .pointer (some ⟨g, 0, none⟩)), (3, .pointer (some ⟨g0_0, 0, none⟩)), (6, .bool (decide (wrongJ sh.length jf jc)))]) (fun j w => Mem w0 w ((fun _ => Asr.row g0_0 31 [.int .i64 jf, .int .i64 jc, .int .u64 (ji : Int)] :: Asr.row g 53 [.slice As sh.length cs, .slice Ac cd.length cc, .slice Al l.length cl, .slice Ar (ints round).length cr, .int .i64 turn] :: Asr.lst intE As cs sh :: Asr.lst intE Ac cc cd :: Asr.lst jobE Al cl l :: Asr.lst intE Ar cr (ints round) :: L) j) ∧ (fun _ => True) j) ?_ ?_
  · refine W.drawM ([Asr.row g 53 [.slice As sh.length cs, .slice Ac cd.length cc, .slice Al l.length cl, .slice Ar (ints round).length cr, .int .i64 turn], Asr.row g0_0 31 [.int .i64 jf, .int .i64 jc, .int .u64 (ji : Int)]]) (by kernel_rfl) (fun j => [4, 5, 6, 7, 8, 9, 10].contains j) M (by first | ((repeat (first | with_reducible exact Sel.refl | with_reducible exact Sel.nil | with_reducible exact Del.here | with_reducible apply Del.there | with_reducible apply Sel.cons | with_reducible apply Sel.drop)); done) | (repeat (first | exact Sel.refl | exact Sel.nil | exact Del.here | apply Del.there | apply Sel.cons | apply Sel.drop))) ?_
    clear M; intro M
    apply DG.pure_ [0] 23 rfl (by kernel_rfl) (by kernel_rfl)
    · intro w
      refine WL.fieldR (off := 0) Try.underlying31 rfl rfl Try.sizeOf3 rfl rfl rfl ?_
      exact Chain.end_ rfl
    apply DG.take [1, 2] 21 rfl (by kernel_rfl) (by kernel_rfl) (M.sel (by first | ((repeat (first | with_reducible exact Sel.refl | with_reducible exact Sel.nil | with_reducible exact Del.here | with_reducible apply Del.there | with_reducible apply Sel.cons | with_reducible apply Sel.drop)); done) | (repeat (first | exact Sel.refl | exact Sel.nil | exact Del.here | apply Del.there | apply Sel.cons | apply Sel.drop))))
    · intro w M
      refine WL.loadR Try.isAgg3 rfl M (by first | ((repeat (first | with_reducible exact Has.here | with_reducible refine Has.there ?_)); done) | (repeat (first | exact Has.here | refine Has.there ?_))) rfl rfl ?_
      refine WL.lss rfl rfl rfl ?_
      exact Chain.end_ rfl
    refine DG.knowP (t := 9) rfl (fun c0 => ?_) (fun c0 => ?_)
    · apply DG.pure_ [3] 20 rfl (by kernel_rfl) (by kernel_rfl)
      · intro w
        refine WL.move rfl rfl ?_
        exact Chain.end_ rfl
      apply DG.take [4, 5, 6, 7, 8, 9, 10, 11, 12] 11 rfl (by kernel_rfl) (by kernel_rfl) (M.sel (by first | ((repeat (first | with_reducible exact Sel.refl | with_reducible exact Sel.nil | with_reducible exact Del.here | with_reducible apply Del.there | with_reducible apply Sel.cons | with_reducible apply Sel.drop)); done) | (repeat (first | exact Sel.refl | exact Sel.nil | exact Del.here | apply Del.there | apply Sel.cons | apply Sel.drop))))
      · intro w M
        refine WL.off rfl rfl rfl rfl ?_
        refine WL.off rfl rfl rfl rfl ?_
        refine WL.off rfl rfl rfl rfl ?_
        refine WL.off rfl rfl rfl rfl ?_
        refine WL.off rfl rfl rfl rfl ?_
        refine WL.off rfl rfl rfl rfl ?_
        refine WL.off rfl rfl rfl rfl ?_
        refine WL.off rfl rfl rfl rfl ?_
        refine WL.pickT rfl rfl rfl ?_
        exact Chain.end_ rfl
      apply DG.pure_ [13, 14] 9 rfl (by kernel_rfl) (by kernel_rfl)
      · intro w
        refine WL.move rfl rfl ?_
        refine WL.off rfl rfl rfl rfl ?_
        exact Chain.end_ rfl
      apply DG.pure_ [15, 16, 17] 6 rfl (by kernel_rfl) (by kernel_rfl)
      · intro w
        refine WL.off rfl rfl rfl rfl ?_
        refine WL.off rfl rfl rfl rfl ?_
        refine WL.pickT rfl rfl rfl ?_
        exact Chain.end_ rfl
      apply DG.pure_ [18, 19] 4 rfl (by kernel_rfl) (by kernel_rfl)
      · intro w
        refine WL.move rfl rfl ?_
        refine WL.off rfl rfl rfl rfl ?_
        exact Chain.end_ rfl
      apply DG.pure_ [20, 21, 22, 23] 0 rfl (by kernel_rfl) (by kernel_rfl)
      · intro w
        refine WL.off rfl rfl rfl rfl ?_
        refine WL.off rfl rfl rfl rfl ?_
        refine WL.pickT rfl rfl rfl ?_
        refine WL.assign rfl rfl ?_
        exact Chain.end_ rfl
      refine DG.end_ (by kernel_rfl) ?_
      refine WX.join (()) (envSub.cons rfl (envSub.cons rfl (envSub.cons (by first | exact congrArg some (congrArg Value.bool (decide_eq_true (by unfold wrongJ; omega)).symm) | exact congrArg some (congrArg Value.bool (decide_eq_decide.2 (by unfold wrongJ; omega)))) envSub.nil))) ⟨M.sel (by first | ((repeat (first | with_reducible exact Sel.refl | with_reducible exact Sel.nil | with_reducible exact Del.here | with_reducible apply Del.there | with_reducible apply Sel.cons | with_reducible apply Sel.drop)); done) | (repeat (first | exact Sel.refl | exact Sel.nil | exact Del.here | apply Del.there | apply Sel.cons | apply Sel.drop))), trivial⟩
    · apply DG.pure_ [3] 20 rfl (by kernel_rfl) (by kernel_rfl)
      · intro w
        refine WL.move rfl rfl ?_
        exact Chain.end_ rfl
      apply DG.take [4, 5, 6, 7, 8, 9, 10, 11, 12] 11 rfl (by kernel_rfl) (by kernel_rfl) (M.sel (by first | ((repeat (first | with_reducible exact Sel.refl | with_reducible exact Sel.nil | with_reducible exact Del.here | with_reducible apply Del.there | with_reducible apply Sel.cons | with_reducible apply Sel.drop)); done) | (repeat (first | exact Sel.refl | exact Sel.nil | exact Del.here | apply Del.there | apply Sel.cons | apply Sel.drop))))
      · intro w M
        refine WL.on rfl rfl ?_
        refine WL.fieldR (off := 0) Try.underlying31 rfl rfl Try.sizeOf3 rfl rfl rfl ?_
        refine WL.on rfl rfl ?_
        refine WL.loadR Try.isAgg3 rfl M (by first | ((repeat (first | with_reducible exact Has.here | with_reducible refine Has.there ?_)); done) | (repeat (first | exact Has.here | refine Has.there ?_))) rfl rfl ?_
        refine WL.on rfl rfl ?_
        refine WL.move rfl rfl ?_
        refine WL.on rfl rfl ?_
        refine WL.nilCheck rfl rfl ?_
        refine WL.on rfl rfl ?_
        refine WL.fieldR (off := 0) Try.underlying53 rfl rfl Try.sizeOf22 rfl rfl rfl ?_
        refine WL.on rfl rfl ?_
        refine WL.loadR Try.isAgg22 rfl M (by first | ((repeat (first | with_reducible exact Has.here | with_reducible refine Has.there ?_)); done) | (repeat (first | exact Has.here | refine Has.there ?_))) rfl rfl ?_
        refine WL.on rfl rfl ?_
        refine WL.len Try.underlying22 rfl rfl ?_
        refine WL.on rfl rfl ?_
        refine WL.geq rfl rfl rfl ?_
        refine WL.pickF rfl rfl rfl ?_
        exact Chain.end_ rfl
      refine DG.knowP (t := 19) rfl (fun c1 => ?_) (fun c1 => ?_)
      · apply DG.pure_ [13, 14] 9 rfl (by kernel_rfl) (by kernel_rfl)
        · intro w
          refine WL.move rfl rfl ?_
          refine WL.off rfl rfl rfl rfl ?_
          exact Chain.end_ rfl
        apply DG.pure_ [15, 16, 17] 6 rfl (by kernel_rfl) (by kernel_rfl)
        · intro w
          refine WL.off rfl rfl rfl rfl ?_
          refine WL.off rfl rfl rfl rfl ?_
          refine WL.pickT rfl rfl rfl ?_
          exact Chain.end_ rfl
        apply DG.pure_ [18, 19] 4 rfl (by kernel_rfl) (by kernel_rfl)
        · intro w
          refine WL.move rfl rfl ?_
          refine WL.off rfl rfl rfl rfl ?_
          exact Chain.end_ rfl
        apply DG.pure_ [20, 21, 22, 23] 0 rfl (by kernel_rfl) (by kernel_rfl)
        · intro w
          refine WL.off rfl rfl rfl rfl ?_
          refine WL.off rfl rfl rfl rfl ?_
          refine WL.pickT rfl rfl rfl ?_
          refine WL.assign rfl rfl ?_
          exact Chain.end_ rfl
        refine DG.end_ (by kernel_rfl) ?_
        refine WX.join (()) (envSub.cons rfl (envSub.cons rfl (envSub.cons (by first | exact congrArg some (congrArg Value.bool (decide_eq_true (by unfold wrongJ; omega)).symm) | exact congrArg some (congrArg Value.bool (decide_eq_decide.2 (by unfold wrongJ; omega)))) envSub.nil))) ⟨M.sel (by first | ((repeat (first | with_reducible exact Sel.refl | with_reducible exact Sel.nil | with_reducible exact Del.here | with_reducible apply Del.there | with_reducible apply Sel.cons | with_reducible apply Sel.drop)); done) | (repeat (first | exact Sel.refl | exact Sel.nil | exact Del.here | apply Del.there | apply Sel.cons | apply Sel.drop))), trivial⟩
      · apply DG.pure_ [13, 14] 9 rfl (by kernel_rfl) (by kernel_rfl)
        · intro w
          refine WL.move rfl rfl ?_
          refine WL.on rfl rfl ?_
          refine WL.fieldR (off := 1) Try.underlying31 rfl rfl Try.sizeOf3 rfl rfl rfl ?_
          exact Chain.end_ rfl
        apply DG.take [15, 16, 17] 6 rfl (by kernel_rfl) (by kernel_rfl) (M.sel (by first | ((repeat (first | with_reducible exact Sel.refl | with_reducible exact Sel.nil | with_reducible exact Del.here | with_reducible apply Del.there | with_reducible apply Sel.cons | with_reducible apply Sel.drop)); done) | (repeat (first | exact Sel.refl | exact Sel.nil | exact Del.here | apply Del.there | apply Sel.cons | apply Sel.drop))))
        · intro w M
          refine WL.on rfl rfl ?_
          refine WL.loadR Try.isAgg3 rfl M (by first | ((repeat (first | with_reducible exact Has.here | with_reducible refine Has.there ?_)); done) | (repeat (first | exact Has.here | refine Has.there ?_))) rfl rfl ?_
          refine WL.on rfl rfl ?_
          refine WL.lss rfl rfl rfl ?_
          refine WL.pickF rfl rfl rfl ?_
          exact Chain.end_ rfl
        refine DG.knowP (t := 24) rfl (fun c2 => ?_) (fun c2 => ?_)
        · apply DG.pure_ [18, 19] 4 rfl (by kernel_rfl) (by kernel_rfl)
          · intro w
            refine WL.move rfl rfl ?_
            refine WL.off rfl rfl rfl rfl ?_
            exact Chain.end_ rfl
          apply DG.pure_ [20, 21, 22, 23] 0 rfl (by kernel_rfl) (by kernel_rfl)
          · intro w
            refine WL.off rfl rfl rfl rfl ?_
            refine WL.off rfl rfl rfl rfl ?_
            refine WL.pickT rfl rfl rfl ?_
            refine WL.assign rfl rfl ?_
            exact Chain.end_ rfl
          refine DG.end_ (by kernel_rfl) ?_
          refine WX.join (()) (envSub.cons rfl (envSub.cons rfl (envSub.cons (by first | exact congrArg some (congrArg Value.bool (decide_eq_true (by unfold wrongJ; omega)).symm) | exact congrArg some (congrArg Value.bool (decide_eq_decide.2 (by unfold wrongJ; omega)))) envSub.nil))) ⟨M.sel (by first | ((repeat (first | with_reducible exact Sel.refl | with_reducible exact Sel.nil | with_reducible exact Del.here | with_reducible apply Del.there | with_reducible apply Sel.cons | with_reducible apply Sel.drop)); done) | (repeat (first | exact Sel.refl | exact Sel.nil | exact Del.here | apply Del.there | apply Sel.cons | apply Sel.drop))), trivial⟩
        · apply DG.pure_ [18, 19] 4 rfl (by kernel_rfl) (by kernel_rfl)
          · intro w
            refine WL.move rfl rfl ?_
            refine WL.on rfl rfl ?_
            refine WL.fieldR (off := 1) Try.underlying31 rfl rfl Try.sizeOf3 rfl rfl rfl ?_
            exact Chain.end_ rfl
          apply DG.take [20, 21, 22, 23] 0 rfl (by kernel_rfl) (by kernel_rfl) (M.sel (by first | ((repeat (first | with_reducible exact Sel.refl | with_reducible exact Sel.nil | with_reducible exact Del.here | with_reducible apply Del.there | with_reducible apply Sel.cons | with_reducible apply Sel.drop)); done) | (repeat (first | exact Sel.refl | exact Sel.nil | exact Del.here | apply Del.there | apply Sel.cons | apply Sel.drop))))
          · intro w M
            refine WL.on rfl rfl ?_
            refine WL.loadR Try.isAgg3 rfl M (by first | ((repeat (first | with_reducible exact Has.here | with_reducible refine Has.there ?_)); done) | (repeat (first | exact Has.here | refine Has.there ?_))) rfl rfl ?_
            refine WL.on rfl rfl ?_
            refine WL.gtr rfl rfl rfl ?_
            refine WL.pickF rfl rfl rfl ?_
            refine WL.assign rfl rfl ?_
            exact Chain.end_ rfl
          refine DG.end_ (by kernel_rfl) ?_
          refine WX.join (()) (envSub.cons rfl (envSub.cons rfl (envSub.cons (by first | exact congrArg some (congrArg Value.bool (decide_eq_true (by unfold wrongJ; omega)).symm) | exact congrArg some (congrArg Value.bool (decide_eq_decide.2 (by unfold wrongJ; omega)))) envSub.nil))) ⟨M.sel (by first | ((repeat (first | with_reducible exact Sel.refl | with_reducible exact Sel.nil | with_reducible exact Del.here | with_reducible apply Del.there | with_reducible apply Sel.cons | with_reducible apply Sel.drop)); done) | (repeat (first | exact Sel.refl | exact Sel.nil | exact Del.here | apply Del.there | apply Sel.cons | apply Sel.drop))), trivial⟩
  clear M; rintro (_) w ⟨M, -⟩; dsimp only at M ⊢
  refine W.sub [(0, _), (3, _), (6, _)] (.cons rfl (.cons rfl (.cons rfl .nil))) ?_
  refine W.cond rfl (fun c3 => ?_) (fun c3 => ?_)
  · (try simp only [Bool.not_eq_true'] at c3); (try simp only [Bool.not_eq_false'] at c3); (try simp only [decide_eq_true_eq] at c3); (try simp only [decide_eq_false_iff_not] at c3)
    refine W.seq ?_
    refine W.region ?_
    refine WL.assign rfl rfl ?_
    refine WL.nil ?_
    refine WX.next ?_
    refine W.sub [(4, _)] (.cons rfl .nil) ?_
    refine W.ret ?_
    refine WX.blockRet ?_
    refine WX.thenRet ?_
    refine WX.ret1 rfl rfl ?_
    exact bad 2 (by decide) (pushE_bad (by have c3' := c3; unfold wrongJ at c3'; dsimp only; omega)) _ (M.sel (by first | ((repeat (first | with_reducible exact Sel.refl | with_reducible exact Sel.nil | with_reducible exact Del.here | with_reducible apply Del.there | with_reducible apply Sel.cons | with_reducible apply Sel.drop)); done) | (repeat (first | exact Sel.refl | exact Sel.nil | exact Del.here | apply Del.there | apply Sel.cons | apply Sel.drop))))
  · (try simp only [Bool.not_eq_true'] at c3); (try simp only [Bool.not_eq_false'] at c3); (try simp only [decide_eq_true_eq] at c3); (try simp only [decide_eq_false_iff_not] at c3)
    refine W.seq ?_
    refine W.region ?_
    refine WL.move rfl rfl ?_
    refine WL.nilCheck rfl rfl ?_
    refine WL.fieldR (off := 2) Try.underlying53 rfl rfl Try.sizeOf27 rfl rfl rfl ?_
    refine WL.loadR Try.isAgg27 rfl M (by first | ((repeat (first | with_reducible exact Has.here | with_reducible refine Has.there ?_)); done) | (repeat (first | exact Has.here | refine Has.there ?_))) rfl rfl ?_
    refine WL.len Try.underlying27 rfl rfl ?_
    refine WL.geq rfl rfl rfl ?_
    refine WL.assign rfl rfl ?_
    refine WL.nil ?_
    refine WX.next ?_
    refine W.sub [(0, _), (3, _), (30, _)] (.cons rfl (.cons rfl (.cons rfl .nil))) ?_
    refine W.ite rfl (fun c4 => ?_) (fun c4 => ?_)
    · refine W.seq ?_
      refine W.region ?_
      refine WL.assign rfl rfl ?_
      refine WL.nil ?_
      refine WX.next ?_
      refine W.sub [(4, _)] (.cons rfl .nil) ?_
      refine W.ret ?_
      refine WX.blockRet ?_
      refine WX.thenRet ?_
      refine WX.ret1 rfl rfl ?_
      exact bad 5 (by decide) (by have c3' := c3; unfold wrongJ at c3'; unfold pushE; rw [if_neg (by dsimp only; omega), if_pos (by omega)]) _ (M.sel (by first | ((repeat (first | with_reducible exact Sel.refl | with_reducible exact Sel.nil | with_reducible exact Del.here | with_reducible apply Del.there | with_reducible apply Sel.cons | with_reducible apply Sel.drop)); done) | (repeat (first | exact Sel.refl | exact Sel.nil | exact Del.here | apply Del.there | apply Sel.cons | apply Sel.drop))))
    · refine W.skip ?_
      refine WX.blockNormal ?_
      refine WX.next ?_
      refine W.seq ?_
      have c3' : ¬ (jf < 0 ∨ (s.fl.length : Int) ≤ jf ∨ jc < 1 ∨ 100000 < jc) := by have c3' := c3; unfold wrongJ at c3'; omega
      obtain ⟨k, rfl⟩ : ∃ k : Nat, jf = (k : Int) := ⟨jf.toNat, by omega⟩
      have hk : k < s.fl.length := by omega
      refine W.region ?_
      refine WL.move rfl rfl ?_
      refine WL.fieldR (off := 0) Try.underlying31 rfl rfl Try.sizeOf3 rfl rfl rfl ?_
      refine WL.loadR Try.isAgg3 rfl M (by first | ((repeat (first | with_reducible exact Has.here | with_reducible refine Has.there ?_)); done) | (repeat (first | exact Has.here | refine Has.there ?_))) rfl rfl ?_
      refine WL.call Try.call33 rfl (first_ok ⟨g, As, cs, sh, Ac, cc, cd, Al, cl, l, Ar, cr, round, turn⟩ (by dsimp only; omega) (k : Int) w0 w (Asr.row g0_0 31 [.int .i64 (k : Int), .int .i64 jc, .int .u64 (ji : Int)] :: L) (M.sel (by first | ((repeat (first | with_reducible exact Sel.refl | with_reducible exact Sel.nil | with_reducible exact Del.here | with_reducible apply Del.there | with_reducible apply Sel.cons | with_reducible apply Sel.drop)); done) | (repeat (first | exact Sel.refl | exact Sel.nil | exact Del.here | apply Del.there | apply Sel.cons | apply Sel.drop))))) rfl ?_
      rintro _ w ⟨r, rfl, hfo, M⟩
      unfold RfX.L RfX.row at M
      simp only [List.cons_append, List.nil_append] at M
      have hfi := hfo.is.1
      have hof := ofF_has hok h5 hk
      have hpu := push_says (s := s) (j := ⟨(k : Int), jc, ji⟩) (k := k) rfl hk (by dsimp only; omega) (by omega)
      have hp5 := h5.push (j := ⟨(k : Int), jc, ji⟩) (f := { el s.fl k with jobs := (el s.fl k).jobs ++ [⟨(k : Int), jc, ji⟩] }) rfl hk rfl
      refine WL.assign rfl rfl ?_
      refine WL.nil ?_
      refine WX.next ?_
      refine W.sub [(0, _), (3, _), (5, _)] (.cons rfl (.cons rfl (.cons rfl .nil))) ?_
      refine W.joint (fun (z : List Nat × (Option Addr × Nat)) => [(0, .pointer (some ⟨g, 0, none⟩)), (3, .pointer (some ⟨g0_0, 0, none⟩))]) (fun j w => Mem w0 w ((fun z => Asr.row g0_0 31 [.int .i64 (k : Int), .int .i64 jc, .int .u64 (ji : Int)] :: Asr.row g 53 [.slice As sh.length cs, .slice Ac cd.length cc, .slice Al l.length cl, .slice z.2.1 (ints z.1).length z.2.2, .int .i64 turn] :: Asr.lst intE As cs sh :: Asr.lst intE Ac cc cd :: Asr.lst jobE Al cl l :: Asr.lst intE z.2.1 z.2.2 (ints z.1) :: L) j) ∧ (fun z => z.1 = (if k ∈ s.round then s.round else s.round ++ [k])) j) ?_ ?_
      · refine W.seq ?_
        refine W.region ?_
        refine WL.move rfl rfl ?_
        refine WL.lss rfl rfl rfl ?_
        refine WL.nil ?_
        refine WX.next ?_
        refine W.sub [(0, _), (3, _), (42, _)] (.cons rfl (.cons rfl (.cons rfl .nil))) ?_
        refine W.ite rfl (fun c5 => ?_) (fun c5 => ?_)
        · refine W.drawM ([Asr.row g 53 [.slice As sh.length cs, .slice Ac cd.length cc, .slice Al l.length cl, .slice Ar (ints round).length cr, .int .i64 turn], Asr.lst intE Ar cr (ints round), Asr.row g0_0 31 [.int .i64 (k : Int), .int .i64 jc, .int .u64 (ji : Int)]]) (by kernel_rfl) (fun j => [4, 6, 7].contains j) M (by first | ((repeat (first | with_reducible exact Sel.refl | with_reducible exact Sel.nil | with_reducible exact Del.here | with_reducible apply Del.there | with_reducible apply Sel.cons | with_reducible apply Sel.drop)); done) | (repeat (first | exact Sel.refl | exact Sel.nil | exact Del.here | apply Del.there | apply Sel.cons | apply Sel.drop))) ?_
          clear M; intro M
          apply DG.pure_ [0, 1, 2, 3, 5] 7 rfl (by kernel_rfl) (by kernel_rfl)
          · intro w
            refine WL.move rfl rfl ?_
            refine WL.move rfl rfl ?_
            refine WL.nilCheck rfl rfl ?_
            refine WL.fieldR (off := 3) Try.underlying53 rfl rfl Try.sizeOf22 rfl rfl rfl ?_
            refine WL.fieldR (off := 0) Try.underlying31 rfl rfl Try.sizeOf3 rfl rfl rfl ?_
            exact Chain.end_ rfl
          apply DG.take [4, 6] 5 rfl (by kernel_rfl) (by kernel_rfl) (M.sel (by first | ((repeat (first | with_reducible exact Sel.refl | with_reducible exact Sel.nil | with_reducible exact Del.here | with_reducible apply Del.there | with_reducible apply Sel.cons | with_reducible apply Sel.drop)); done) | (repeat (first | exact Sel.refl | exact Sel.nil | exact Del.here | apply Del.there | apply Sel.cons | apply Sel.drop))))
          · intro w M
            refine WL.loadR Try.isAgg22 rfl M (by first | ((repeat (first | with_reducible exact Has.here | with_reducible refine Has.there ?_)); done) | (repeat (first | exact Has.here | refine Has.there ?_))) rfl rfl ?_
            refine WL.loadR Try.isAgg3 rfl M (by first | ((repeat (first | with_reducible exact Has.here | with_reducible refine Has.there ?_)); done) | (repeat (first | exact Has.here | refine Has.there ?_))) rfl rfl ?_
            exact Chain.end_ rfl
          refine DG.step 7 4 rfl (by kernel_rfl) ?_
          refine WL.buildL (E := intE) (l := [(k : Int)]) Try.elem3 M rfl rfl rfl rfl rfl rfl ?_
          intro g7_7 w M
          refine DG.go (G := fun j => [4, 6, 7].contains j) (i := 7) (f' := 4) (done := [0, 1, 2, 3, 5, 4, 6]) (fun _ => M.sel (by first | ((repeat (first | with_reducible exact Sel.refl | with_reducible exact Sel.nil | with_reducible exact Del.here | with_reducible apply Del.there | with_reducible apply Sel.cons | with_reducible apply Sel.drop)); done) | (repeat (first | exact Sel.refl | exact Sel.nil | exact Del.here | apply Del.there | apply Sel.cons | apply Sel.drop)))) ?_
          refine DG.step 8 3 rfl (by kernel_rfl) ?_
          refine WL.appendL (E := intE) Try.elem3 rfl rfl M (by first | ((repeat (first | with_reducible exact Del.here | with_reducible apply Del.there)); done) | (repeat (first | exact Del.here | apply Del.there))) (by first | with_reducible assumption | with_reducible exact RdL.mem (by with_reducible assumption) M | exact M.rdL (by first | ((repeat (first | with_reducible exact Has.here | with_reducible refine Has.there ?_)); done) | (repeat (first | exact Has.here | refine Has.there ?_))) | exact RdLH.at (by assumption) (M.sel (by first | ((repeat (first | with_reducible exact Sel.refl | with_reducible exact Sel.nil | with_reducible exact Del.here | with_reducible apply Del.there | with_reducible apply Sel.cons | with_reducible apply Sel.drop)); done) | (repeat (first | exact Sel.refl | exact Sel.nil | exact Del.here | apply Del.there | apply Sel.cons | apply Sel.drop)))) | exact RdL.nil _ _ _) rfl rfl (by first | omega | (simp; done) | (simp; omega)) (by first | (simp only [maxLen]; omega) | (simp [maxLen]; done) | (simp [maxLen]; omega)) rfl ?_
          intro A7_8 cap7_8 w M
          refine DG.go (G := fun j => [4, 6, 7].contains j) (i := 8) (f' := 3) (done := [0, 1, 2, 3, 5, 4, 6, 7]) (fun h => by cases h) ?_
          apply DG.pure_ [9, 10] 1 rfl (by kernel_rfl) (by kernel_rfl)
          · intro w
            refine WL.nilCheck rfl rfl ?_
            refine WL.fieldR (off := 3) Try.underlying53 rfl rfl Try.sizeOf22 rfl rfl rfl ?_
            exact Chain.end_ rfl
          refine DG.step 11 0 rfl (by kernel_rfl) ?_
          refine WL.storeR Try.sizeOf22 rfl rfl rfl M (by first | ((repeat (first | with_reducible exact Has.here | with_reducible refine Has.there ?_)); done) | (repeat (first | exact Has.here | refine Has.there ?_))) (by repeat (first | exact SetAt.zero | apply SetAt.succ)) (by first | ((repeat (first | with_reducible exact Upd.here | with_reducible apply Upd.there)); done) | (repeat (first | exact Upd.here | apply Upd.there))) ?_
          intro w M
          refine DG.go (G := fun j => [4, 6, 7].contains j) (i := 11) (f' := 0) (done := [0, 1, 2, 3, 5, 4, 6, 7, 8, 9, 10]) (fun h => by cases h) ?_
          refine DG.end_ (by kernel_rfl) ?_
          have hnm : k ∉ s.round := hof.1 (hfi.1 c5)
          rw [show ints round ++ [(k : Int)] = ints (round ++ [k]) by simp] at M
          refine WX.join ((round ++ [k], (A7_8, cap7_8))) (by (repeat' (first | exact envSub.nil | refine envSub.cons ?_ ?_)) <;> first | rfl | (refine congrArg some ?_; refine congrArg (Value.int _) ?_; first | omega | (dsimp only; omega)) | (simp; done) | (refine congrArg some ?_; dsimp only; congr 1; omega) | (simp; omega)) ⟨M.sel (by first | ((repeat (first | with_reducible exact Sel.refl | with_reducible exact Sel.nil | with_reducible exact Del.here | with_reducible apply Del.there | with_reducible apply Sel.cons | with_reducible apply Sel.drop)); done) | (repeat (first | exact Sel.refl | exact Sel.nil | exact Del.here | apply Del.there | apply Sel.cons | apply Sel.drop))), (by rw [if_neg hnm, h3])⟩
        · refine W.skip ?_
          have hm : k ∈ s.round := Classical.byContradiction fun h => c5 (hfi.2 (hof.2 h))
          refine WX.join ((round, (Ar, cr))) (by (repeat' (first | exact envSub.nil | refine envSub.cons ?_ ?_)) <;> first | rfl | (refine congrArg some ?_; refine congrArg (Value.int _) ?_; first | omega | (dsimp only; omega)) | (simp; done) | (refine congrArg some ?_; dsimp only; congr 1; omega) | (simp; omega)) ⟨M.sel (by first | ((repeat (first | with_reducible exact Sel.refl | with_reducible exact Sel.nil | with_reducible exact Del.here | with_reducible apply Del.there | with_reducible apply Sel.cons | with_reducible apply Sel.drop)); done) | (repeat (first | exact Sel.refl | exact Sel.nil | exact Del.here | apply Del.there | apply Sel.cons | apply Sel.drop))), (by rw [if_pos hm]; exact h3)⟩
      clear M; rintro (⟨rd2, A2, c2⟩) w ⟨M, hrd2⟩; dsimp only at M hrd2 ⊢
      refine W.sub [(0, _), (3, _)] (.cons rfl (.cons rfl .nil)) ?_
      refine W.seq ?_
      refine W.drawM ([Asr.row g 53 [.slice As sh.length cs, .slice Ac cd.length cc, .slice Al l.length cl, .slice A2 (ints rd2).length c2, .int .i64 turn], Asr.lst jobE Al cl l, Asr.row g0_0 31 [.int .i64 (k : Int), .int .i64 jc, .int .u64 (ji : Int)]]) (by kernel_rfl) (fun j => [4, 5, 6].contains j) M (by first | ((repeat (first | with_reducible exact Sel.refl | with_reducible exact Sel.nil | with_reducible exact Del.here | with_reducible apply Del.there | with_reducible apply Sel.cons | with_reducible apply Sel.drop)); done) | (repeat (first | exact Sel.refl | exact Sel.nil | exact Del.here | apply Del.there | apply Sel.cons | apply Sel.drop))) ?_
      clear M; intro M
      apply DG.pure_ [0, 1, 2, 3] 7 rfl (by kernel_rfl) (by kernel_rfl)
      · intro w
        refine WL.move rfl rfl ?_
        refine WL.move rfl rfl ?_
        refine WL.nilCheck rfl rfl ?_
        refine WL.fieldR (off := 2) Try.underlying53 rfl rfl Try.sizeOf27 rfl rfl rfl ?_
        exact Chain.end_ rfl
      apply DG.take [4, 5] 5 rfl (by kernel_rfl) (by kernel_rfl) (M.sel (by first | ((repeat (first | with_reducible exact Sel.refl | with_reducible exact Sel.nil | with_reducible exact Del.here | with_reducible apply Del.there | with_reducible apply Sel.cons | with_reducible apply Sel.drop)); done) | (repeat (first | exact Sel.refl | exact Sel.nil | exact Del.here | apply Del.there | apply Sel.cons | apply Sel.drop))))
      · intro w M
        refine WL.loadR Try.isAgg27 rfl M (by first | ((repeat (first | with_reducible exact Has.here | with_reducible refine Has.there ?_)); done) | (repeat (first | exact Has.here | refine Has.there ?_))) rfl rfl ?_
        refine WL.loadW Try.isAgg31 Try.sizeOf31 rfl M (by first | ((repeat (first | with_reducible exact Has.here | with_reducible refine Has.there ?_)); done) | (repeat (first | exact Has.here | refine Has.there ?_))) rfl rfl ?_
        exact Chain.end_ rfl
      refine DG.step 6 4 rfl (by kernel_rfl) ?_
      refine WL.buildL (E := jobE) (l := [⟨(k : Int), jc, ji⟩]) Try.elem31 M rfl rfl rfl rfl rfl rfl ?_
      intro g8_6 w M
      refine DG.go (G := fun j => [4, 5, 6].contains j) (i := 6) (f' := 4) (done := [0, 1, 2, 3, 4, 5]) (fun _ => M.sel (by first | ((repeat (first | with_reducible exact Sel.refl | with_reducible exact Sel.nil | with_reducible exact Del.here | with_reducible apply Del.there | with_reducible apply Sel.cons | with_reducible apply Sel.drop)); done) | (repeat (first | exact Sel.refl | exact Sel.nil | exact Del.here | apply Del.there | apply Sel.cons | apply Sel.drop)))) ?_
      refine DG.step 7 3 rfl (by kernel_rfl) ?_
      refine WL.appendL (E := jobE) Try.elem31 rfl rfl M (by first | ((repeat (first | with_reducible exact Del.here | with_reducible apply Del.there)); done) | (repeat (first | exact Del.here | apply Del.there))) (by first | with_reducible assumption | with_reducible exact RdL.mem (by with_reducible assumption) M | exact M.rdL (by first | ((repeat (first | with_reducible exact Has.here | with_reducible refine Has.there ?_)); done) | (repeat (first | exact Has.here | refine Has.there ?_))) | exact RdLH.at (by assumption) (M.sel (by first | ((repeat (first | with_reducible exact Sel.refl | with_reducible exact Sel.nil | with_reducible exact Del.here | with_reducible apply Del.there | with_reducible apply Sel.cons | with_reducible apply Sel.drop)); done) | (repeat (first | exact Sel.refl | exact Sel.nil | exact Del.here | apply Del.there | apply Sel.cons | apply Sel.drop)))) | exact RdL.nil _ _ _) rfl rfl (by first | omega | (simp; done) | (simp; omega)) (by first | (simp only [maxLen]; omega) | (simp [maxLen]; done) | (simp [maxLen]; omega)) rfl ?_
      intro A8_7 cap8_7 w M
      refine DG.go (G := fun j => [4, 5, 6].contains j) (i := 7) (f' := 3) (done := [0, 1, 2, 3, 4, 5, 6]) (fun h => by cases h) ?_
      apply DG.pure_ [8, 9] 1 rfl (by kernel_rfl) (by kernel_rfl)
      · intro w
        refine WL.nilCheck rfl rfl ?_
        refine WL.fieldR (off := 2) Try.underlying53 rfl rfl Try.sizeOf27 rfl rfl rfl ?_
        exact Chain.end_ rfl
      refine DG.step 10 0 rfl (by kernel_rfl) ?_
      refine WL.storeR Try.sizeOf27 rfl rfl rfl M (by first | ((repeat (first | with_reducible exact Has.here | with_reducible refine Has.there ?_)); done) | (repeat (first | exact Has.here | refine Has.there ?_))) (by repeat (first | exact SetAt.zero | apply SetAt.succ)) (by first | ((repeat (first | with_reducible exact Upd.here | with_reducible apply Upd.there)); done) | (repeat (first | exact Upd.here | apply Upd.there))) ?_
      intro w M
      refine DG.go (G := fun j => [4, 5, 6].contains j) (i := 10) (f' := 0) (done := [0, 1, 2, 3, 4, 5, 6, 7, 8, 9]) (fun h => by cases h) ?_
      refine DG.end_ (by kernel_rfl) ?_
      refine WX.next ?_
      refine W.sub [] .nil ?_
      refine W.seq ?_
      refine W.region ?_
      refine WL.assign rfl rfl ?_
      refine WL.nil ?_
      refine WX.next ?_
      refine W.sub [(4, _)] (.cons rfl .nil) ?_
      refine W.ret ?_
      refine WX.ret1 rfl rfl ?_
      refine ⟨⟨g, As, cs, sh, Ac, cc, cd, A8_7, cap8_7, l ++ [⟨(k : Int), jc, ji⟩], A2, c2, rd2, turn⟩, by rw [hpu.1], rfl, ?_, M.sel (by first | ((repeat (first | with_reducible exact Sel.refl | with_reducible exact Sel.nil | with_reducible exact Del.here | with_reducible apply Del.there | with_reducible apply Sel.cons | with_reducible apply Sel.drop)); done) | (repeat (first | exact Sel.refl | exact Sel.nil | exact Del.here | apply Del.there | apply Sel.cons | apply Sel.drop)))⟩
      have hps : pushS s ⟨(k : Int), jc, ji⟩ = ⟨s.fl.set k { el s.fl k with jobs := (el s.fl k).jobs ++ [⟨(k : Int), jc, ji⟩] }, if k ∈ s.round then s.round else s.round ++ [k], s.on⟩ := by
        unfold pushS
        rw [if_pos hpu.1]
        rfl
      rw [hps]
      have hhd : s.on = true → Sd.hd ⟨s.fl.set k { el s.fl k with jobs := (el s.fl k).jobs ++ [⟨(k : Int), jc, ji⟩] }, if k ∈ s.round then s.round else s.round ++ [k], s.on⟩ = s.hd := by
        intro ho
        have hne := hok.on ho
        unfold Sd.hd
        dsimp only
        split
        · rfl
        · cases hc : s.round with
          | nil => exact absurd hc hne
          | cons a b => rfl
      refine ⟨?_, ?_, hrd2, ?_, hp5⟩
      · exact h1.trans (map_setSame Fl.share hk (by rfl)).symm
      · exact h2.trans (map_setSame Fl.credit hk (by rfl)).symm
      · dsimp only
        rw [h4]
        split
        · rename_i ho
          rw [hhd ho]
        · rfl
end Go.Proofs.Ytdhmopmfnnlhcaa
