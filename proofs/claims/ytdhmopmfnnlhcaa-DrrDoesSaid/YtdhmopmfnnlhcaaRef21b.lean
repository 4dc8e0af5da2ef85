/-
  Walks: the document's answer for drr (seawallref21): next, New, Push.
-/
import Derived.Test.YtdhmopmfnnlhcaaRef21
import Derived.Test.YtdhmopmfnnlhcaaDrr6
namespace Go.Proofs.Ytdhmopmfnnlhcaa
open Go Go.RowKit

theorem next_ok (x : RfX) (k : Nat) (r : List Nat) (hr : x.round = k :: r) (hk : k < x.sh.length) (hcd : x.cd.length = x.sh.length) (hc : 0 ≤ el x.cd k ∧ el x.cd k ≤ 300000) (hs : 0 ≤ el x.sh k ∧ el x.sh k ≤ 300000) (w0 w : World) (L : List Asr) (M : Mem w0 w (x.L ++ L)) :
    Fn Try.prog 32 [.pointer (some ⟨x.g, 0, none⟩)] w fun _ w' => Mem w0 w' (RfX.L { x with turn := (k : Int), cd := x.cd.set k (el x.cd k + el x.sh k) } ++ L) := by
  obtain ⟨g, As, cs, sh, Ac, cc, cd, Al, cl, l, Ar, cr, round, turn⟩ := x
  dsimp only at hr hk hcd hc hs ⊢
  subst hr
  unfold RfX.L RfX.row at M
  simp only [List.cons_append, List.nil_append] at M
  unfold RfX.L RfX.row
  simp only [List.cons_append, List.nil_append]
  have hi0 : 0 < (ints (k :: r)).length := by simp
  have hi1 : 0 < (List.map (fun k : Nat => (k : Int)) (k :: r)).length := by simp
  have hel : el (ints (k :: r)) 0 = (k : Int) := rfl
  refine Fn.enter Try.func32 rfl Try.ntmps32 rfl ?_
  refine W.sub [(0, _)] (.cons rfl .nil) ?_
  refine W.seq ?_
  refine W.region ?_
  refine WL.move rfl rfl ?_
  refine WL.move rfl rfl ?_
  refine WL.nilCheck rfl rfl ?_
  refine WL.fieldR (off := 3) Try.underlying53 rfl rfl Try.sizeOf22 rfl rfl rfl ?_
  refine WL.loadR Try.isAgg22 rfl M (by first | ((repeat (first | with_reducible exact Has.here | with_reducible refine Has.there ?_)); done) | (repeat (first | exact Has.here | refine Has.there ?_))) rfl rfl ?_
  refine WL.idxA (jn := 0) Try.underlying22 Try.sizeOf3 rfl rfl (RdL.isSome (E := intE) (by first | with_reducible assumption | with_reducible exact RdL.mem (by with_reducible assumption) M | exact M.rdL (by first | ((repeat (first | with_reducible exact Has.here | with_reducible refine Has.there ?_)); done) | (repeat (first | exact Has.here | refine Has.there ?_))) | exact RdLH.at (by assumption) (M.sel (by first | ((repeat (first | with_reducible exact Sel.refl | with_reducible exact Sel.nil | with_reducible exact Del.here | with_reducible apply Del.there | with_reducible apply Sel.cons | with_reducible apply Sel.drop)); done) | (repeat (first | exact Sel.refl | exact Sel.nil | exact Del.here | apply Del.there | apply Sel.cons | apply Sel.drop)))) | exact RdL.nil _ _ _) (by omega)) (by omega) (by omega) (by first | exact rfl | exact (Int.toNat_of_nonneg (by omega)).symm) rfl ?_
  refine WL.loadE0 (E := intE) Try.isAgg3 rfl (by first | with_reducible assumption | with_reducible exact RdL.mem (by with_reducible assumption) M | exact M.rdL (by first | ((repeat (first | with_reducible exact Has.here | with_reducible refine Has.there ?_)); done) | (repeat (first | exact Has.here | refine Has.there ?_))) | exact RdLH.at (by assumption) (M.sel (by first | ((repeat (first | with_reducible exact Sel.refl | with_reducible exact Sel.nil | with_reducible exact Del.here | with_reducible apply Del.there | with_reducible apply Sel.cons | with_reducible apply Sel.drop)); done) | (repeat (first | exact Sel.refl | exact Sel.nil | exact Del.here | apply Del.there | apply Sel.cons | apply Sel.drop)))) | exact RdL.nil _ _ _) (by omega) rfl rfl ?_
  refine WL.nilCheck rfl rfl ?_
  refine WL.fieldR (off := 4) Try.underlying53 rfl rfl Try.sizeOf3 rfl rfl rfl ?_
  refine WL.storeR Try.sizeOf3 rfl rfl rfl M (by first | ((repeat (first | with_reducible exact Has.here | with_reducible refine Has.there ?_)); done) | (repeat (first | exact Has.here | refine Has.there ?_))) (by repeat (first | exact SetAt.zero | apply SetAt.succ)) (by first | ((repeat (first | with_reducible exact Upd.here | with_reducible apply Upd.there)); done) | (repeat (first | exact Upd.here | apply Upd.there))) ?_
  intro w M
  refine WL.nil ?_
  refine WX.next ?_
  refine W.sub [(0, _)] (.cons rfl .nil) ?_
  try rw [hel] at M
  refine W.drawM ([Asr.row g 53 [.slice As sh.length cs, .slice Ac cd.length cc, .slice Al l.length cl, .slice Ar (ints (k :: r)).length cr, .int .i64 (k : Int)], Asr.lst intE As cs sh, Asr.lst intE Ac cc cd]) (by kernel_rfl) (fun j => [3, 7, 11, 15, 16, 17, 21, 25, 26, 27, 28].contains j) M (by first | ((repeat (first | with_reducible exact Sel.refl | with_reducible exact Sel.nil | with_reducible exact Del.here | with_reducible apply Del.there | with_reducible apply Sel.cons | with_reducible apply Sel.drop)); done) | (repeat (first | exact Sel.refl | exact Sel.nil | exact Del.here | apply Del.there | apply Sel.cons | apply Sel.drop))) ?_
  clear M; intro M
  apply DG.pure_ [0, 1, 2, 4, 5, 6, 8, 9, 10, 12, 13, 14, 18, 19, 20, 22, 23, 24] 13 rfl (by kernel_rfl) (by kernel_rfl)
  · intro w
    refine WL.move rfl rfl ?_
    refine WL.nilCheck rfl rfl ?_
    refine WL.fieldR (off := 1) Try.underlying53 rfl rfl Try.sizeOf22 rfl rfl rfl ?_
    refine WL.move rfl rfl ?_
    refine WL.nilCheck rfl rfl ?_
    refine WL.fieldR (off := 4) Try.underlying53 rfl rfl Try.sizeOf3 rfl rfl rfl ?_
    refine WL.move rfl rfl ?_
    refine WL.nilCheck rfl rfl ?_
    refine WL.fieldR (off := 1) Try.underlying53 rfl rfl Try.sizeOf22 rfl rfl rfl ?_
    refine WL.move rfl rfl ?_
    refine WL.nilCheck rfl rfl ?_
    refine WL.fieldR (off := 4) Try.underlying53 rfl rfl Try.sizeOf3 rfl rfl rfl ?_
    refine WL.move rfl rfl ?_
    refine WL.nilCheck rfl rfl ?_
    refine WL.fieldR (off := 0) Try.underlying53 rfl rfl Try.sizeOf22 rfl rfl rfl ?_
    refine WL.move rfl rfl ?_
    refine WL.nilCheck rfl rfl ?_
    refine WL.fieldR (off := 4) Try.underlying53 rfl rfl Try.sizeOf3 rfl rfl rfl ?_
    exact Chain.end_ rfl
  apply DG.take [3, 7, 11, 15, 16, 17, 21, 25, 26, 27, 28, 29] 1 rfl (by kernel_rfl) (by kernel_rfl) (M.sel (by first | ((repeat (first | with_reducible exact Sel.refl | with_reducible exact Sel.nil | with_reducible exact Del.here | with_reducible apply Del.there | with_reducible apply Sel.cons | with_reducible apply Sel.drop)); done) | (repeat (first | exact Sel.refl | exact Sel.nil | exact Del.here | apply Del.there | apply Sel.cons | apply Sel.drop))))
  · intro w M
    refine WL.loadR Try.isAgg22 rfl M (by first | ((repeat (first | with_reducible exact Has.here | with_reducible refine Has.there ?_)); done) | (repeat (first | exact Has.here | refine Has.there ?_))) rfl rfl ?_
    refine WL.loadR Try.isAgg3 rfl M (by first | ((repeat (first | with_reducible exact Has.here | with_reducible refine Has.there ?_)); done) | (repeat (first | exact Has.here | refine Has.there ?_))) rfl rfl ?_
    refine WL.loadR Try.isAgg22 rfl M (by first | ((repeat (first | with_reducible exact Has.here | with_reducible refine Has.there ?_)); done) | (repeat (first | exact Has.here | refine Has.there ?_))) rfl rfl ?_
    refine WL.loadR Try.isAgg3 rfl M (by first | ((repeat (first | with_reducible exact Has.here | with_reducible refine Has.there ?_)); done) | (repeat (first | exact Has.here | refine Has.there ?_))) rfl rfl ?_
    refine WL.idxA Try.underlying22 Try.sizeOf3 rfl rfl (RdL.isSome (E := intE) (by first | with_reducible assumption | with_reducible exact RdL.mem (by with_reducible assumption) M | exact M.rdL (by first | ((repeat (first | with_reducible exact Has.here | with_reducible refine Has.there ?_)); done) | (repeat (first | exact Has.here | refine Has.there ?_))) | exact RdLH.at (by assumption) (M.sel (by first | ((repeat (first | with_reducible exact Sel.refl | with_reducible exact Sel.nil | with_reducible exact Del.here | with_reducible apply Del.there | with_reducible apply Sel.cons | with_reducible apply Sel.drop)); done) | (repeat (first | exact Sel.refl | exact Sel.nil | exact Del.here | apply Del.there | apply Sel.cons | apply Sel.drop)))) | exact RdL.nil _ _ _) (by omega)) (by omega) (by omega) (by first | exact rfl | exact (Int.toNat_of_nonneg (by omega)).symm) rfl ?_
    refine WL.loadE0 (E := intE) Try.isAgg3 rfl (by first | with_reducible assumption | with_reducible exact RdL.mem (by with_reducible assumption) M | exact M.rdL (by first | ((repeat (first | with_reducible exact Has.here | with_reducible refine Has.there ?_)); done) | (repeat (first | exact Has.here | refine Has.there ?_))) | exact RdLH.at (by assumption) (M.sel (by first | ((repeat (first | with_reducible exact Sel.refl | with_reducible exact Sel.nil | with_reducible exact Del.here | with_reducible apply Del.there | with_reducible apply Sel.cons | with_reducible apply Sel.drop)); done) | (repeat (first | exact Sel.refl | exact Sel.nil | exact Del.here | apply Del.there | apply Sel.cons | apply Sel.drop)))) | exact RdL.nil _ _ _) (by omega) rfl rfl ?_
    refine WL.loadR Try.isAgg22 rfl M (by first | ((repeat (first | with_reducible exact Has.here | with_reducible refine Has.there ?_)); done) | (repeat (first | exact Has.here | refine Has.there ?_))) rfl rfl ?_
    refine WL.loadR Try.isAgg3 rfl M (by first | ((repeat (first | with_reducible exact Has.here | with_reducible refine Has.there ?_)); done) | (repeat (first | exact Has.here | refine Has.there ?_))) rfl rfl ?_
    refine WL.idxA Try.underlying22 Try.sizeOf3 rfl rfl (RdL.isSome (E := intE) (by first | with_reducible assumption | with_reducible exact RdL.mem (by with_reducible assumption) M | exact M.rdL (by first | ((repeat (first | with_reducible exact Has.here | with_reducible refine Has.there ?_)); done) | (repeat (first | exact Has.here | refine Has.there ?_))) | exact RdLH.at (by assumption) (M.sel (by first | ((repeat (first | with_reducible exact Sel.refl | with_reducible exact Sel.nil | with_reducible exact Del.here | with_reducible apply Del.there | with_reducible apply Sel.cons | with_reducible apply Sel.drop)); done) | (repeat (first | exact Sel.refl | exact Sel.nil | exact Del.here | apply Del.there | apply Sel.cons | apply Sel.drop)))) | exact RdL.nil _ _ _) (by omega)) (by omega) (by omega) (by first | exact rfl | exact (Int.toNat_of_nonneg (by omega)).symm) rfl ?_
    refine WL.loadE0 (E := intE) Try.isAgg3 rfl (by first | with_reducible assumption | with_reducible exact RdL.mem (by with_reducible assumption) M | exact M.rdL (by first | ((repeat (first | with_reducible exact Has.here | with_reducible refine Has.there ?_)); done) | (repeat (first | exact Has.here | refine Has.there ?_))) | exact RdLH.at (by assumption) (M.sel (by first | ((repeat (first | with_reducible exact Sel.refl | with_reducible exact Sel.nil | with_reducible exact Del.here | with_reducible apply Del.there | with_reducible apply Sel.cons | with_reducible apply Sel.drop)); done) | (repeat (first | exact Sel.refl | exact Sel.nil | exact Del.here | apply Del.there | apply Sel.cons | apply Sel.drop)))) | exact RdL.nil _ _ _) (by omega) rfl rfl ?_
    refine WL.add rfl rfl (show IntKind.i64.wrap (el cd k + el sh k) = el cd k + el sh k from wI64 (by omega)) rfl ?_
    refine WL.idxA Try.underlying22 Try.sizeOf3 rfl rfl (RdL.isSome (E := intE) (by first | with_reducible assumption | with_reducible exact RdL.mem (by with_reducible assumption) M | exact M.rdL (by first | ((repeat (first | with_reducible exact Has.here | with_reducible refine Has.there ?_)); done) | (repeat (first | exact Has.here | refine Has.there ?_))) | exact RdLH.at (by assumption) (M.sel (by first | ((repeat (first | with_reducible exact Sel.refl | with_reducible exact Sel.nil | with_reducible exact Del.here | with_reducible apply Del.there | with_reducible apply Sel.cons | with_reducible apply Sel.drop)); done) | (repeat (first | exact Sel.refl | exact Sel.nil | exact Del.here | apply Del.there | apply Sel.cons | apply Sel.drop)))) | exact RdL.nil _ _ _) (by omega)) (by omega) (by omega) (by first | exact rfl | exact (Int.toNat_of_nonneg (by omega)).symm) rfl ?_
    exact Chain.end_ rfl
  refine DG.step 30 0 rfl (by kernel_rfl) ?_
  refine WL.storeE0 (E := intE) Try.sizeOf3 rfl rfl rfl M (by first | ((repeat (first | with_reducible exact Has.here | with_reducible refine Has.there ?_)); done) | (repeat (first | exact Has.here | refine Has.there ?_))) (by omega) (by repeat (first | exact SetAt.zero | apply SetAt.succ)) (by first | ((repeat (first | with_reducible exact Upd.here | with_reducible apply Upd.there)); done) | (repeat (first | exact Upd.here | apply Upd.there))) ?_
  intro w M
  refine DG.go (G := fun j => [3, 7, 11, 15, 16, 17, 21, 25, 26, 27, 28].contains j) (i := 30) (f' := 0) (done := [0, 1, 2, 4, 5, 6, 8, 9, 10, 12, 13, 14, 18, 19, 20, 22, 23, 24, 3, 7, 11, 15, 16, 17, 21, 25, 26, 27, 28, 29]) (fun h => by cases h) ?_
  refine DG.end_ (by kernel_rfl) ?_
  refine WX.end0 rfl ?_
  rw [List.length_set]
  exact M.sel (by first | ((repeat (first | with_reducible exact Sel.refl | with_reducible exact Sel.nil | with_reducible exact Del.here | with_reducible apply Del.there | with_reducible apply Sel.cons | with_reducible apply Sel.drop)); done) | (repeat (first | exact Sel.refl | exact Sel.nil | exact Del.here | apply Del.there | apply Sel.cons | apply Sel.drop)))
/-- The document's scheduler tells the same. -/
structure RfX.is (x : RfX) (s : Sd) : Prop where
  sh : x.sh = s.fl.map Fl.share
  cd : x.cd = s.fl.map Fl.credit
  round : x.round = s.round
  turn : x.turn = if s.on then (s.hd : Int) else -1
  l : LFl x.l s.fl
theorem RfX.new_is {l : List Int} (hb : ¬ badL l) (g : Nat) (As : Option Addr) (cs : Nat) (Ac : Option Addr) (cc : Nat) (Al : Option Addr) (cl : Nat) (Ar : Option Addr) (cr : Nat) : RfX.is ⟨g, As, cs, l, Ac, cc, List.replicate l.length 0, Al, cl, [], Ar, cr, [], -1⟩ (newS l) := by
  refine ⟨?_, ?_, rfl, rfl, ⟨(newS_ok hb).2.symm, fun j hj => (by cases hj), fun k hk => ?_⟩⟩
  · unfold newS
    simp [Function.comp_def]
  · unfold newS
    dsimp only
    rw [List.map_map]
    apply List.ext_getElem
    · simp
    · intro i h1 h2
      simp
  · unfold newS at hk ⊢
    simp at hk
    simp [ofF, el, hk]

theorem RNew_ok {A : Option Addr} {cap : Nat} {l : List Int} {w0 : World} (h : RdL w0 intE A cap l) (hl : l.length ≤ 1000000) :
    Fn Try.prog 19 [.slice A l.length cap] w0 fun v w' => (badL l ∧ v = .tuple #[.pointer none, .int .i64 2] ∧ Mem w0 w' []) ∨
      (¬ badL l ∧ ∃ x : RfX, v = .tuple #[.pointer (some ⟨x.g, 0, none⟩), .int .i64 0] ∧ x.is (newS l) ∧ Mem w0 w' x.L) := by
  have M := Mem.refl w0
  obtain ⟨w, hw⟩ : ∃ w, w = w0 := ⟨w0, rfl⟩
  refine Fn.enter Try.func19 rfl Try.ntmps19 rfl ?_
  refine W.sub [(0, _)] (.cons rfl .nil) ?_
  refine W.seq ?_
  refine W.region ?_
  refine WL.assign rfl rfl ?_
  refine WL.assign rfl rfl ?_
  refine WL.nil ?_
  refine WX.next ?_
  refine W.sub [(0, _)] (.cons rfl .nil) ?_
  refine W.seq ?_
  refine W.seq ?_
  refine W.region ?_
  refine WL.move rfl rfl ?_
  refine WL.len Try.underlying22 rfl rfl ?_
  refine WL.lss rfl rfl rfl ?_
  refine WL.moveIf rfl rfl (fun c0 => ?_) (fun c0 => ?_)
  · refine WL.off rfl rfl rfl rfl ?_
    refine WL.off rfl rfl rfl rfl ?_
    refine WL.off rfl rfl rfl rfl ?_
    refine WL.pickT rfl rfl rfl ?_
    refine WL.nil ?_
    refine WX.next ?_
    refine W.sub [(0, _), (13, _)] (.cons rfl (.cons rfl .nil)) ?_
    refine W.condT rfl ?_
    refine W.seq ?_
    refine W.region ?_
    refine WL.assign rfl rfl ?_
    refine WL.assign rfl rfl ?_
    refine WL.nil ?_
    refine WX.next ?_
    refine W.sub [(2, _), (3, _)] (.cons rfl (.cons rfl .nil)) ?_
    refine W.ret ?_
    refine WX.thenRet ?_
    refine WX.ret2 rfl rfl rfl ?_
    exact .inl ⟨by unfold badL; omega, rfl, M.sel (by first | ((repeat (first | with_reducible exact Sel.refl | with_reducible exact Sel.nil | with_reducible exact Del.here | with_reducible apply Del.there | with_reducible apply Sel.cons | with_reducible apply Sel.drop)); done) | (repeat (first | exact Sel.refl | exact Sel.nil | exact Del.here | apply Del.there | apply Sel.cons | apply Sel.drop)))⟩
  · refine WL.on rfl rfl ?_
    refine WL.move rfl rfl ?_
    refine WL.on rfl rfl ?_
    refine WL.len Try.underlying22 rfl rfl ?_
    refine WL.on rfl rfl ?_
    refine WL.gtr rfl rfl rfl ?_
    refine WL.pickF rfl rfl rfl ?_
    refine WL.nil ?_
    refine WX.next ?_
    refine W.sub [(0, _), (13, _)] (.cons rfl (.cons rfl .nil)) ?_
    refine W.ite rfl (fun c1 => ?_) (fun c1 => ?_)
    · refine W.seq ?_
      refine W.region ?_
      refine WL.assign rfl rfl ?_
      refine WL.assign rfl rfl ?_
      refine WL.nil ?_
      refine WX.next ?_
      refine W.sub [(2, _), (3, _)] (.cons rfl (.cons rfl .nil)) ?_
      refine W.ret ?_
      refine WX.thenRet ?_
      refine WX.ret2 rfl rfl rfl ?_
      exact .inl ⟨by unfold badL; omega, rfl, M.sel (by first | ((repeat (first | with_reducible exact Sel.refl | with_reducible exact Sel.nil | with_reducible exact Del.here | with_reducible apply Del.there | with_reducible apply Sel.cons | with_reducible apply Sel.drop)); done) | (repeat (first | exact Sel.refl | exact Sel.nil | exact Del.here | apply Del.there | apply Sel.cons | apply Sel.drop)))⟩
    · refine W.skip ?_
      refine WX.next ?_
      refine W.seq ?_
      refine W.region ?_
      refine WL.buildP (places := #[(0, 1), (1, 1), (2, 1), (3, 1), (4, 1)]) Try.underlying53 Try.zeroValue53 (fun _ => by simp [Try.sizeOf22, Try.sizeOf22, Try.sizeOf27, Try.sizeOf22, Try.sizeOf3]) rfl (by repeat (first | exact Puts.nil | exact SetAt.zero | apply SetAt.succ | apply Puts.cons rfl rfl)) rfl ?_
      refine WL.box rfl M rfl ?_
      intro g3_1 w M
      try simp only [Value.cells] at M
      try simp only [List.toList_toArray] at M
      refine WL.assign rfl rfl ?_
      refine WL.nil ?_
      refine WX.next ?_
      refine W.sub [(0, _), (4, _)] (.cons rfl (.cons rfl .nil)) ?_
      refine W.seq ?_
      refine W.seq ?_
      have M2 : Mem w0 w (Asr.lst intE none 0 [] :: _) := M.nilOwn 3 1
      have M3 : Mem w0 w (Asr.lst intE none 0 [] :: _) := M2.nilOwn 3 1
      replace M := M3
      refine W.region ?_
      refine WL.assign rfl rfl ?_
      refine WL.nil ?_
      refine WX.next ?_
      refine W.sub [(0, _), (4, _), (5, _)] (.cons rfl (.cons rfl (.cons rfl .nil))) ?_
      refine W.block ?_
      refine W.loop (ι := Nat × (Option Addr × Nat) × (Option Addr × Nat)) (fun z => [(0, .slice A l.length cap), (4, .pointer (some ⟨g3_1, 0, none⟩)), (5, .int .i64 (z.1 : Int))]) (fun zz w => Mem w0 w ((fun z => [Asr.row g3_1 53 [.slice z.2.1.1 (l.take z.1).length z.2.1.2, .slice z.2.2.1 (List.replicate z.1 (0 : Int)).length z.2.2.2, .slice none 0 0, .slice none 0 0, .int .i64 (-1)], Asr.lst intE z.2.1.1 z.2.1.2 (l.take z.1), Asr.lst intE z.2.2.1 z.2.2.2 (List.replicate z.1 0)]) zz) ∧ (fun z => z.1 ≤ l.length ∧ ∀ k, k < z.1 → wrongB (el l k) = false) zz) (fun z => l.length - z.1) ((0, (none, 0), (none, 0))) (by (repeat' (first | exact envSub.nil | refine envSub.cons ?_ ?_)) <;> first | rfl | (refine congrArg some ?_; refine congrArg (Value.int _) ?_; first | omega | (dsimp only; omega)) | (simp; done) | (refine congrArg some ?_; dsimp only; congr 1; omega) | (simp; omega)) ⟨M.sel (by first | ((repeat (first | with_reducible exact Sel.refl | with_reducible exact Sel.nil | with_reducible exact Del.here | with_reducible apply Del.there | with_reducible apply Sel.cons | with_reducible apply Sel.drop)); done) | (repeat (first | exact Sel.refl | exact Sel.nil | exact Del.here | apply Del.there | apply Sel.cons | apply Sel.drop))), ⟨Nat.zero_le _, fun k hk => absurd hk (Nat.not_lt_zero _)⟩⟩ ?_
      clear M; rintro (⟨i, ⟨B, cB⟩, ⟨C, cC⟩⟩) w ⟨M, ⟨hi, hs⟩⟩; dsimp only at M hi hs ⊢
      refine W.sub [(0, _), (4, _), (5, _)] (.cons rfl (.cons rfl (.cons rfl .nil))) ?_
      refine W.seq ?_
      refine W.seq ?_
      refine W.region ?_
      refine WL.move rfl rfl ?_
      refine WL.move rfl rfl ?_
      refine WL.len Try.underlying22 rfl rfl ?_
      refine WL.lss rfl rfl rfl ?_
      refine WL.nil ?_
      refine WX.next ?_
      refine W.sub [(0, _), (4, _), (5, _), (19, _)] (.cons rfl (.cons rfl (.cons rfl (.cons rfl .nil)))) ?_
      refine W.ite rfl (fun c2 => ?_) (fun c2 => ?_)
      · refine W.skip ?_
        refine WX.next ?_
        refine W.seq ?_
        refine W.block ?_
        refine W.seq ?_
        refine W.seq ?_
        refine W.region ?_
        refine WL.move rfl rfl ?_
        refine WL.move rfl rfl ?_
        refine WL.idxA Try.underlying22 Try.sizeOf3 rfl rfl (RdL.isSome (E := intE) (by first | with_reducible assumption | with_reducible exact RdL.mem (by with_reducible assumption) M | exact M.rdL (by first | ((repeat (first | with_reducible exact Has.here | with_reducible refine Has.there ?_)); done) | (repeat (first | exact Has.here | refine Has.there ?_))) | exact RdLH.at (by assumption) (M.sel (by first | ((repeat (first | with_reducible exact Sel.refl | with_reducible exact Sel.nil | with_reducible exact Del.here | with_reducible apply Del.there | with_reducible apply Sel.cons | with_reducible apply Sel.drop)); done) | (repeat (first | exact Sel.refl | exact Sel.nil | exact Del.here | apply Del.there | apply Sel.cons | apply Sel.drop)))) | exact RdL.nil _ _ _) (by omega)) (by omega) (by omega) (by first | exact rfl | exact (Int.toNat_of_nonneg (by omega)).symm) rfl ?_
        refine WL.loadE0 (E := intE) Try.isAgg3 rfl (by first | with_reducible assumption | with_reducible exact RdL.mem (by with_reducible assumption) M | exact M.rdL (by first | ((repeat (first | with_reducible exact Has.here | with_reducible refine Has.there ?_)); done) | (repeat (first | exact Has.here | refine Has.there ?_))) | exact RdLH.at (by assumption) (M.sel (by first | ((repeat (first | with_reducible exact Sel.refl | with_reducible exact Sel.nil | with_reducible exact Del.here | with_reducible apply Del.there | with_reducible apply Sel.cons | with_reducible apply Sel.drop)); done) | (repeat (first | exact Sel.refl | exact Sel.nil | exact Del.here | apply Del.there | apply Sel.cons | apply Sel.drop)))) | exact RdL.nil _ _ _) (by omega) rfl rfl ?_
        refine WL.lss rfl rfl rfl ?_
        refine WL.moveIf rfl rfl (fun c3 => ?_) (fun c3 => ?_)
        · refine WL.off rfl rfl rfl rfl ?_
          refine WL.off rfl rfl rfl rfl ?_
          refine WL.off rfl rfl rfl rfl ?_
          refine WL.off rfl rfl rfl rfl ?_
          refine WL.off rfl rfl rfl rfl ?_
          refine WL.pickT rfl rfl rfl ?_
          refine WL.nil ?_
          refine WX.next ?_
          refine W.sub [(0, _), (4, _), (5, _), (33, _)] (.cons rfl (.cons rfl (.cons rfl (.cons rfl .nil)))) ?_
          refine W.condT rfl ?_
          refine W.seq ?_
          refine W.region ?_
          refine WL.assign rfl rfl ?_
          refine WL.assign rfl rfl ?_
          refine WL.nil ?_
          refine WX.next ?_
          refine W.sub [(2, _), (3, _)] (.cons rfl (.cons rfl .nil)) ?_
          refine W.ret ?_
          refine WX.thenRet ?_
          refine WX.blockRet ?_
          refine WX.thenRet ?_
          refine WX.thenRet ?_
          refine WX.blockRet ?_
          refine WX.thenRet ?_
          refine WX.ret2 rfl rfl rfl ?_
          exact .inl ⟨.inl (List.any_eq_true.2 ⟨_, el_mem (l := l) (k := i) (by omega), by unfold wrongB; simp; first | omega | (simp at c4; omega)⟩), rfl, M.sel (by first | ((repeat (first | with_reducible exact Sel.refl | with_reducible exact Sel.nil | with_reducible exact Del.here | with_reducible apply Del.there | with_reducible apply Sel.cons | with_reducible apply Sel.drop)); done) | (repeat (first | exact Sel.refl | exact Sel.nil | exact Del.here | apply Del.there | apply Sel.cons | apply Sel.drop)))⟩
        · refine WL.on rfl rfl ?_
          refine WL.move rfl rfl ?_
          refine WL.on rfl rfl ?_
          refine WL.move rfl rfl ?_
          refine WL.on rfl rfl ?_
          refine WL.idxA Try.underlying22 Try.sizeOf3 rfl rfl (RdL.isSome (E := intE) (by first | with_reducible assumption | with_reducible exact RdL.mem (by with_reducible assumption) M | exact M.rdL (by first | ((repeat (first | with_reducible exact Has.here | with_reducible refine Has.there ?_)); done) | (repeat (first | exact Has.here | refine Has.there ?_))) | exact RdLH.at (by assumption) (M.sel (by first | ((repeat (first | with_reducible exact Sel.refl | with_reducible exact Sel.nil | with_reducible exact Del.here | with_reducible apply Del.there | with_reducible apply Sel.cons | with_reducible apply Sel.drop)); done) | (repeat (first | exact Sel.refl | exact Sel.nil | exact Del.here | apply Del.there | apply Sel.cons | apply Sel.drop)))) | exact RdL.nil _ _ _) (by omega)) (by omega) (by omega) (by first | exact rfl | exact (Int.toNat_of_nonneg (by omega)).symm) rfl ?_
          refine WL.on rfl rfl ?_
          refine WL.loadE0 (E := intE) Try.isAgg3 rfl (by first | with_reducible assumption | with_reducible exact RdL.mem (by with_reducible assumption) M | exact M.rdL (by first | ((repeat (first | with_reducible exact Has.here | with_reducible refine Has.there ?_)); done) | (repeat (first | exact Has.here | refine Has.there ?_))) | exact RdLH.at (by assumption) (M.sel (by first | ((repeat (first | with_reducible exact Sel.refl | with_reducible exact Sel.nil | with_reducible exact Del.here | with_reducible apply Del.there | with_reducible apply Sel.cons | with_reducible apply Sel.drop)); done) | (repeat (first | exact Sel.refl | exact Sel.nil | exact Del.here | apply Del.there | apply Sel.cons | apply Sel.drop)))) | exact RdL.nil _ _ _) (by omega) rfl rfl ?_
          refine WL.on rfl rfl ?_
          refine WL.gtr rfl rfl rfl ?_
          refine WL.pickF rfl rfl rfl ?_
          refine WL.nil ?_
          refine WX.next ?_
          refine W.sub [(0, _), (4, _), (5, _), (33, _)] (.cons rfl (.cons rfl (.cons rfl (.cons rfl .nil)))) ?_
          refine W.ite rfl (fun c4 => ?_) (fun c4 => ?_)
          · refine W.seq ?_
            refine W.region ?_
            refine WL.assign rfl rfl ?_
            refine WL.assign rfl rfl ?_
            refine WL.nil ?_
            refine WX.next ?_
            refine W.sub [(2, _), (3, _)] (.cons rfl (.cons rfl .nil)) ?_
            refine W.ret ?_
            refine WX.thenRet ?_
            refine WX.blockRet ?_
            refine WX.thenRet ?_
            refine WX.thenRet ?_
            refine WX.blockRet ?_
            refine WX.thenRet ?_
            refine WX.ret2 rfl rfl rfl ?_
            exact .inl ⟨.inl (List.any_eq_true.2 ⟨_, el_mem (l := l) (k := i) (by omega), by unfold wrongB; simp; first | omega | (simp at c4; omega)⟩), rfl, M.sel (by first | ((repeat (first | with_reducible exact Sel.refl | with_reducible exact Sel.nil | with_reducible exact Del.here | with_reducible apply Del.there | with_reducible apply Sel.cons | with_reducible apply Sel.drop)); done) | (repeat (first | exact Sel.refl | exact Sel.nil | exact Del.here | apply Del.there | apply Sel.cons | apply Sel.drop)))⟩
          · refine W.skip ?_
            refine WX.next ?_
            refine W.seq ?_
            have hti : i < l.length := by omega
            have htl : (l.take i).length = i := by rw [List.length_take]; omega
            have hrl : (List.replicate i (0 : Int)).length = i := List.length_replicate
            refine W.drawM ([Asr.row g3_1 53 [.slice B (l.take i).length cB, .slice C (List.replicate i (0 : Int)).length cC, .slice none 0 0, .slice none 0 0, .int .i64 (-1)], Asr.lst intE B cB (l.take i)]) (by kernel_rfl) (fun j => [4, 8, 9].contains j) M (by first | ((repeat (first | with_reducible exact Sel.refl | with_reducible exact Sel.nil | with_reducible exact Del.here | with_reducible apply Del.there | with_reducible apply Sel.cons | with_reducible apply Sel.drop)); done) | (repeat (first | exact Sel.refl | exact Sel.nil | exact Del.here | apply Del.there | apply Sel.cons | apply Sel.drop))) ?_
            clear M; intro M
            apply DG.pure_ [0, 1, 2, 3, 5, 6, 7] 7 rfl (by kernel_rfl) (by kernel_rfl)
            · intro w
              refine WL.move rfl rfl ?_
              refine WL.move rfl rfl ?_
              refine WL.nilCheck rfl rfl ?_
              refine WL.fieldR (off := 0) Try.underlying53 rfl rfl Try.sizeOf22 rfl rfl rfl ?_
              refine WL.move rfl rfl ?_
              refine WL.move rfl rfl ?_
              refine WL.idxA Try.underlying22 Try.sizeOf3 rfl rfl (RdL.isSome (E := intE) (by first | with_reducible assumption | with_reducible exact RdL.mem (by with_reducible assumption) M | exact M.rdL (by first | ((repeat (first | with_reducible exact Has.here | with_reducible refine Has.there ?_)); done) | (repeat (first | exact Has.here | refine Has.there ?_))) | exact RdLH.at (by assumption) (M.sel (by first | ((repeat (first | with_reducible exact Sel.refl | with_reducible exact Sel.nil | with_reducible exact Del.here | with_reducible apply Del.there | with_reducible apply Sel.cons | with_reducible apply Sel.drop)); done) | (repeat (first | exact Sel.refl | exact Sel.nil | exact Del.here | apply Del.there | apply Sel.cons | apply Sel.drop)))) | exact RdL.nil _ _ _) (by omega)) (by omega) (by omega) (by first | exact rfl | exact (Int.toNat_of_nonneg (by omega)).symm) rfl ?_
              exact Chain.end_ rfl
            apply DG.take [4, 8] 5 rfl (by kernel_rfl) (by kernel_rfl) (M.sel (by first | ((repeat (first | with_reducible exact Sel.refl | with_reducible exact Sel.nil | with_reducible exact Del.here | with_reducible apply Del.there | with_reducible apply Sel.cons | with_reducible apply Sel.drop)); done) | (repeat (first | exact Sel.refl | exact Sel.nil | exact Del.here | apply Del.there | apply Sel.cons | apply Sel.drop))))
            · intro w M
              refine WL.loadR Try.isAgg22 rfl M (by first | ((repeat (first | with_reducible exact Has.here | with_reducible refine Has.there ?_)); done) | (repeat (first | exact Has.here | refine Has.there ?_))) rfl rfl ?_
              refine WL.loadE0 (E := intE) Try.isAgg3 rfl (by first | with_reducible assumption | with_reducible exact RdL.mem (by with_reducible assumption) M | exact M.rdL (by first | ((repeat (first | with_reducible exact Has.here | with_reducible refine Has.there ?_)); done) | (repeat (first | exact Has.here | refine Has.there ?_))) | exact RdLH.at (by assumption) (M.sel (by first | ((repeat (first | with_reducible exact Sel.refl | with_reducible exact Sel.nil | with_reducible exact Del.here | with_reducible apply Del.there | with_reducible apply Sel.cons | with_reducible apply Sel.drop)); done) | (repeat (first | exact Sel.refl | exact Sel.nil | exact Del.here | apply Del.there | apply Sel.cons | apply Sel.drop)))) | exact RdL.nil _ _ _) (by omega) rfl rfl ?_
              exact Chain.end_ rfl
            refine DG.step 9 4 rfl (by kernel_rfl) ?_
            refine WL.buildL (E := intE) (l := [el l i]) Try.elem3 M rfl rfl rfl rfl rfl rfl ?_
            intro g9_9 w M
            refine DG.go (G := fun j => [4, 8, 9].contains j) (i := 9) (f' := 4) (done := [0, 1, 2, 3, 5, 6, 7, 4, 8]) (fun _ => M.sel (by first | ((repeat (first | with_reducible exact Sel.refl | with_reducible exact Sel.nil | with_reducible exact Del.here | with_reducible apply Del.there | with_reducible apply Sel.cons | with_reducible apply Sel.drop)); done) | (repeat (first | exact Sel.refl | exact Sel.nil | exact Del.here | apply Del.there | apply Sel.cons | apply Sel.drop)))) ?_
            refine DG.step 10 3 rfl (by kernel_rfl) ?_
            refine WL.appendL (E := intE) Try.elem3 rfl rfl M (by first | ((repeat (first | with_reducible exact Del.here | with_reducible apply Del.there)); done) | (repeat (first | exact Del.here | apply Del.there))) (by first | with_reducible assumption | with_reducible exact RdL.mem (by with_reducible assumption) M | exact M.rdL (by first | ((repeat (first | with_reducible exact Has.here | with_reducible refine Has.there ?_)); done) | (repeat (first | exact Has.here | refine Has.there ?_))) | exact RdLH.at (by assumption) (M.sel (by first | ((repeat (first | with_reducible exact Sel.refl | with_reducible exact Sel.nil | with_reducible exact Del.here | with_reducible apply Del.there | with_reducible apply Sel.cons | with_reducible apply Sel.drop)); done) | (repeat (first | exact Sel.refl | exact Sel.nil | exact Del.here | apply Del.there | apply Sel.cons | apply Sel.drop)))) | exact RdL.nil _ _ _) rfl rfl (by first | omega | (simp; done) | (simp; omega)) (by first | (simp only [maxLen]; omega) | (simp [maxLen]; done) | (simp [maxLen]; omega)) rfl ?_
            intro A9_10 cap9_10 w M
            refine DG.go (G := fun j => [4, 8, 9].contains j) (i := 10) (f' := 3) (done := [0, 1, 2, 3, 5, 6, 7, 4, 8, 9]) (fun h => by cases h) ?_
            apply DG.pure_ [11, 12] 1 rfl (by kernel_rfl) (by kernel_rfl)
            · intro w
              refine WL.nilCheck rfl rfl ?_
              refine WL.fieldR (off := 0) Try.underlying53 rfl rfl Try.sizeOf22 rfl rfl rfl ?_
              exact Chain.end_ rfl
            refine DG.step 13 0 rfl (by kernel_rfl) ?_
            refine WL.storeR Try.sizeOf22 rfl rfl rfl M (by first | ((repeat (first | with_reducible exact Has.here | with_reducible refine Has.there ?_)); done) | (repeat (first | exact Has.here | refine Has.there ?_))) (by repeat (first | exact SetAt.zero | apply SetAt.succ)) (by first | ((repeat (first | with_reducible exact Upd.here | with_reducible apply Upd.there)); done) | (repeat (first | exact Upd.here | apply Upd.there))) ?_
            intro w M
            refine DG.go (G := fun j => [4, 8, 9].contains j) (i := 13) (f' := 0) (done := [0, 1, 2, 3, 5, 6, 7, 4, 8, 9, 10, 11, 12]) (fun h => by cases h) ?_
            refine DG.end_ (by kernel_rfl) ?_
            refine WX.next ?_
            refine W.sub [(0, _), (4, _), (5, _)] (.cons rfl (.cons rfl (.cons rfl .nil))) ?_
            refine W.region ?_
            refine WL.move rfl rfl ?_
            refine WL.move rfl rfl ?_
            refine WL.nilCheck rfl rfl ?_
            refine WL.fieldR (off := 1) Try.underlying53 rfl rfl Try.sizeOf22 rfl rfl rfl ?_
            refine WL.loadR Try.isAgg22 rfl M (by first | ((repeat (first | with_reducible exact Has.here | with_reducible refine Has.there ?_)); done) | (repeat (first | exact Has.here | refine Has.there ?_))) rfl rfl ?_
            refine WL.buildL (E := intE) (l := [_]) Try.elem3 M rfl rfl rfl rfl rfl rfl ?_
            intro g10_5 w M
            refine WL.appendL (E := intE) Try.elem3 rfl rfl M (by first | ((repeat (first | with_reducible exact Del.here | with_reducible apply Del.there)); done) | (repeat (first | exact Del.here | apply Del.there))) (by first | with_reducible assumption | with_reducible exact RdL.mem (by with_reducible assumption) M | exact M.rdL (by first | ((repeat (first | with_reducible exact Has.here | with_reducible refine Has.there ?_)); done) | (repeat (first | exact Has.here | refine Has.there ?_))) | exact RdLH.at (by assumption) (M.sel (by first | ((repeat (first | with_reducible exact Sel.refl | with_reducible exact Sel.nil | with_reducible exact Del.here | with_reducible apply Del.there | with_reducible apply Sel.cons | with_reducible apply Sel.drop)); done) | (repeat (first | exact Sel.refl | exact Sel.nil | exact Del.here | apply Del.there | apply Sel.cons | apply Sel.drop)))) | exact RdL.nil _ _ _) rfl rfl (by first | omega | (simp; done) | (simp; omega)) (by first | (simp only [maxLen]; omega) | (simp [maxLen]; done) | (simp [maxLen]; omega)) rfl ?_
            intro A10_6 cap10_6 w M
            refine WL.nilCheck rfl rfl ?_
            refine WL.fieldR (off := 1) Try.underlying53 rfl rfl Try.sizeOf22 rfl rfl rfl ?_
            refine WL.storeR Try.sizeOf22 rfl rfl rfl M (by first | ((repeat (first | with_reducible exact Has.here | with_reducible refine Has.there ?_)); done) | (repeat (first | exact Has.here | refine Has.there ?_))) (by repeat (first | exact SetAt.zero | apply SetAt.succ)) (by first | ((repeat (first | with_reducible exact Upd.here | with_reducible apply Upd.there)); done) | (repeat (first | exact Upd.here | apply Upd.there))) ?_
            intro w M
            refine WL.nil ?_
            refine WX.blockNormal ?_
            refine WX.next ?_
            refine W.sub [(0, _), (4, _), (5, _)] (.cons rfl (.cons rfl (.cons rfl .nil))) ?_
            refine W.region ?_
            refine WL.move rfl rfl ?_
            refine WL.add rfl rfl (by first | exact wI64 (by omega) | rfl) rfl ?_
            refine WL.assign rfl rfl ?_
            refine WL.nil ?_
            skip
            have e3 : List.replicate i (0 : Int) ++ [0] = List.replicate (i + 1) 0 := (List.replicate_succ' ..).symm
            rw [← take_snoc hti, e3] at M
            have hs2 : ∀ k, k < i + 1 → wrongB (el l k) = false := fun k hk => by
              rcases Nat.lt_or_ge k i with h | h
              · exact hs k h
              · obtain rfl : k = i := by omega
                unfold wrongB
                simp
                first | omega | (simp at c4; omega)
            refine WX.round ((i + 1, (A9_10, cap9_10), (A10_6, cap10_6))) (by (repeat' (first | exact envSub.nil | refine envSub.cons ?_ ?_)) <;> first | rfl | (refine congrArg some ?_; refine congrArg (Value.int _) ?_; first | omega | (dsimp only; omega)) | (simp; done) | (refine congrArg some ?_; dsimp only; congr 1; omega) | (simp; omega)) ⟨M.sel (by first | ((repeat (first | with_reducible exact Sel.refl | with_reducible exact Sel.nil | with_reducible exact Del.here | with_reducible apply Del.there | with_reducible apply Sel.cons | with_reducible apply Sel.drop)); done) | (repeat (first | exact Sel.refl | exact Sel.nil | exact Del.here | apply Del.there | apply Sel.cons | apply Sel.drop))), ⟨by omega, hs2⟩⟩ (by first | omega | (dsimp only; omega))
      · refine W.exit ?_
        refine WX.thenExit ?_
        refine WX.thenExit ?_
        refine WX.blockHere ?_
        refine WX.next ?_
        refine W.seq ?_
        refine W.region ?_
        refine WL.move rfl rfl ?_
        refine WL.assign rfl rfl ?_
        refine WL.assign rfl rfl ?_
        refine WL.nil ?_
        refine WX.next ?_
        refine W.sub [(2, _), (3, _)] (.cons rfl (.cons rfl .nil)) ?_
        refine W.ret ?_
        refine WX.ret2 rfl rfl rfl ?_
        obtain rfl : i = l.length := by omega
        have hb : ¬ badL l := by
          unfold badL
          rintro (h1 | h1)
          · obtain ⟨z, hz, hw⟩ := List.any_eq_true.1 h1
            obtain ⟨k, hk, rfl⟩ := List.getElem_of_mem hz
            have h2 := hs k hk
            have e : el l k = l[k] := by simp [el, hk]
            rw [e, hw] at h2
            cases h2
          · omega
        rw [List.take_length] at M
        have M2 : Mem w0 w (Asr.lst jobE none 0 [] :: _) := M.nilOwn 31 3
        have M3 : Mem w0 w (Asr.lst intE none 0 (ints []) :: _) := M2.nilOwn 3 1
        exact .inr ⟨hb, ⟨g3_1, B, cB, l, C, cC, List.replicate l.length 0, none, 0, [], none, 0, [], -1⟩, rfl, RfX.new_is hb .., M3.sel (by first | ((repeat (first | with_reducible exact Sel.refl | with_reducible exact Sel.nil | with_reducible exact Del.here | with_reducible apply Del.there | with_reducible apply Sel.cons | with_reducible apply Sel.drop)); done) | (repeat (first | exact Sel.refl | exact Sel.nil | exact Del.here | apply Del.there | apply Sel.cons | apply Sel.drop)))⟩
end Go.Proofs.Ytdhmopmfnnlhcaa
