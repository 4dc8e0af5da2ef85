/-
  Walks: a job of any numbers, a scheduler of any shares; what is not there; what the examples fix (seawalllaw21).
-/
import Derived.Test.YtdhmopmfnnlhcaaDrr5
namespace Go.Proofs.Ytdhmopmfnnlhcaa
open Go Go.RowKit

section
variable {P : Program} {n : Nat} {ρ : List (Nat × Value)} {w : World} {t : TypeId}
theorem WX.retC1 {fn : Func} {R : Value → World → Prop} {p : Tmp} {ad : Addr} {cs : List Value} (hr : fn.results = #[.cell p t]) (h1 : envGet ρ p = some (.pointer (some ad)))
    (hA : ∀ w, (isAgg t).run P w = .ok true w) (hs : ∀ w, (sizeOf t).run P w = .ok cs.length w) (hc : ∀ j v, cs[j]? = some v → w.cell? (ad.add j) = some v)
    (h : R (.agg cs.toArray) w) : WX (Done P fn R) .ret n ρ w := fun a ha => ⟨ha.defers, _, by
      have e1 := ha.tmp h1
      simp only [results, hr]
      simp only [Array.getD_eq_getD_getElem?] at e1
      simp [e1, asAddr, run_loadVarAgg (P := P) hA hs hc], _, rfl, h⟩
end

/-- A job that may be. -/
def jobX (j : JX) (n : Nat) : JX := ⟨(((j.flow % 18446744073709551616).toNat % n : Nat) : Int), 1 + (((j.cost % 18446744073709551616).toNat % 120 : Nat) : Int), j.id⟩
theorem jobX_ok (j : JX) {n : Nat} (h : 1 ≤ n) : 0 ≤ (jobX j n).flow ∧ (jobX j n).flow < (n : Int) ∧ 1 ≤ (jobX j n).cost ∧ (jobX j n).cost ≤ 120 := by
  unfold jobX
  dsimp only
  have := Nat.mod_lt (j.flow % 18446744073709551616).toNat (show 0 < n by omega)
  have := Nat.mod_lt (j.cost % 18446744073709551616).toNat (show 0 < 120 by omega)
  omega
set_option maxRecDepth 10000 in
theorem job_ok (j : JX) (n : Nat) (hn : 1 ≤ n ∧ n ≤ 1000) (w0 : World) :
    Fn Try.prog 11 [j.v, .int .i64 (n : Int)] w0 fun v w' => v = (jobX j n).v ∧ Mem w0 w' [] := by
  have M := Mem.refl w0
  obtain ⟨w, hw⟩ : ∃ w, w = w0 := ⟨w0, rfl⟩
  obtain ⟨jf, jc, ji⟩ := j
  unfold JX.v
  dsimp only
  obtain ⟨a, ha⟩ : ∃ a : Nat, IntKind.u64.wrap jf = (a : Int) := ⟨(jf % 18446744073709551616).toNat, by rw [mU64]; omega⟩
  obtain ⟨b, hb⟩ : ∃ a : Nat, IntKind.u64.wrap jc = (a : Int) := ⟨(jc % 18446744073709551616).toNat, by rw [mU64]; omega⟩
  have ha' : (jf % 18446744073709551616).toNat = a := by rw [mU64] at ha; omega
  have hb' : (jc % 18446744073709551616).toNat = b := by rw [mU64] at hb; omega
  have hlt := Nat.mod_lt a (show 0 < n by omega)
  have hlt2 := Nat.mod_lt b (show 0 < 120 by omega)
  refine Fn.enter Try.func11 rfl Try.ntmps11 rfl ?_
  refine W.sub [(0, _), (1, _)] (.cons rfl (.cons rfl .nil)) ?_
  refine W.seq ?_
  refine W.region ?_
  refine WL.box rfl M rfl ?_
  intro g0_0 w M
  try simp only [Value.cells] at M
  try simp only [List.toList_toArray] at M
  refine WL.alloc Try.zeroValue31 M rfl ?_
  intro g0_1 w M
  try simp only [Value.cells] at M
  try simp only [List.toList_toArray] at M
  refine WL.nil ?_
  refine WX.next ?_
  refine W.sub [(1, _), (2, _), (4, _)] (.cons rfl (.cons rfl (.cons rfl .nil))) ?_
  refine W.seq ?_
  refine W.drawM (_) (by kernel_rfl) (fun j => [1, 2, 5, 6, 8, 9, 10, 11, 12, 14].contains j) M Sel.refl ?_
  clear M; intro M
  apply DG.pure_ [0, 3, 4, 7, 13] 12 rfl (by kernel_rfl) (by kernel_rfl)
  · intro w
    refine WL.fieldR (off := 0) Try.underlying31 rfl rfl Try.sizeOf3 rfl rfl rfl ?_
    refine WL.move rfl rfl ?_
    refine WL.conv Try.underlying3 Try.underlying43 rfl (by first | exact wU64 (by omega) | exact mU64 _ | rfl) rfl ?_
    refine WL.fieldR (off := 1) Try.underlying31 rfl rfl Try.sizeOf3 rfl rfl rfl ?_
    refine WL.fieldR (off := 2) Try.underlying31 rfl rfl Try.sizeOf29 rfl rfl rfl ?_
    exact Chain.end_ rfl
  apply DG.take [1, 2, 5, 6, 8, 9, 10, 11, 12, 14, 15] 1 rfl (by kernel_rfl) (by kernel_rfl) (M.sel (by first | ((repeat (first | with_reducible exact Sel.refl | with_reducible exact Sel.nil | with_reducible exact Del.here | with_reducible apply Del.there | with_reducible apply Sel.cons | with_reducible apply Sel.drop)); done) | (repeat (first | exact Sel.refl | exact Sel.nil | exact Del.here | apply Del.there | apply Sel.cons | apply Sel.drop))))
  · intro w M
    refine WL.loadR Try.isAgg3 rfl M (by first | ((repeat (first | with_reducible exact Has.here | with_reducible refine Has.there ?_)); done) | (repeat (first | exact Has.here | refine Has.there ?_))) rfl rfl ?_
    refine WL.conv Try.underlying3 Try.underlying43 rfl ha rfl ?_
    refine WL.rem rfl rfl (by omega) (remN (by omega)) rfl ?_
    refine WL.conv Try.underlying43 Try.underlying3 rfl (by first | exact wI64 (by omega) | rfl) rfl ?_
    refine WL.loadR Try.isAgg3 rfl M (by first | ((repeat (first | with_reducible exact Has.here | with_reducible refine Has.there ?_)); done) | (repeat (first | exact Has.here | refine Has.there ?_))) rfl rfl ?_
    refine WL.conv Try.underlying3 Try.underlying43 rfl hb rfl ?_
    refine WL.rem rfl rfl (by omega) (remN (by omega)) rfl ?_
    refine WL.conv Try.underlying43 Try.underlying3 rfl (by first | exact wI64 (by omega) | rfl) rfl ?_
    refine WL.add rfl rfl (by first | exact wI64 (by omega) | rfl) rfl ?_
    refine WL.loadR Try.isAgg29 rfl M (by first | ((repeat (first | with_reducible exact Has.here | with_reducible refine Has.there ?_)); done) | (repeat (first | exact Has.here | refine Has.there ?_))) rfl rfl ?_
    refine WL.buildP (places := #[(0, 1), (1, 1), (2, 1)]) Try.underlying31 Try.zeroValue31 (fun _ => by simp [Try.sizeOf3, Try.sizeOf3, Try.sizeOf29]) rfl (by repeat (first | exact Puts.nil | exact SetAt.zero | apply SetAt.succ | apply Puts.cons rfl rfl)) rfl ?_
    exact Chain.end_ rfl
  refine DG.step 16 0 rfl (by kernel_rfl) ?_
  refine WL.storeWA Try.sizeOf31 rfl rfl (by repeat (first | exact oneNil | refine oneCons rfl ?_)) rfl rfl M (by first | ((repeat (first | with_reducible exact Upd.here | with_reducible apply Upd.there)); done) | (repeat (first | exact Upd.here | apply Upd.there))) ?_
  intro w M
  refine DG.go (G := fun j => [1, 2, 5, 6, 8, 9, 10, 11, 12, 14].contains j) (i := 16) (f' := 0) (done := [0, 3, 4, 7, 13, 1, 2, 5, 6, 8, 9, 10, 11, 12, 14, 15]) (fun h => by cases h) ?_
  refine DG.end_ (by kernel_rfl) ?_
  refine WX.next ?_
  refine W.sub [(4, _)] (.cons rfl .nil) ?_
  refine W.ret ?_
  refine WX.retC1 (cs := [_, _, _]) rfl rfl Try.isAgg31 (by exact Try.sizeOf31) (M.cellsH (by first | ((repeat (first | with_reducible exact Has.here | with_reducible refine Has.there ?_)); done) | (repeat (first | exact Has.here | refine Has.there ?_)))) ?_
  refine ⟨?_, M.sel (by first | ((repeat (first | with_reducible exact Sel.refl | with_reducible exact Sel.nil | with_reducible exact Del.here | with_reducible apply Del.there | with_reducible apply Sel.cons | with_reducible apply Sel.drop)); done) | (repeat (first | exact Sel.refl | exact Sel.nil | exact Del.here | apply Del.there | apply Sel.cons | apply Sel.drop)))⟩
  unfold jobX
  rw [ha', hb']
  rfl

/-- Shares that may be. -/
def shareX (z : Int) : Int := 1 + (((z % 18446744073709551616).toNat % 50 : Nat) : Int)
def schedL (l : List Int) : List Int := if l = [] then [3] else (l.take 8).map shareX
theorem schedL_ok (l : List Int) : 1 ≤ (schedL l).length ∧ (schedL l).length ≤ 8 ∧ ∀ z ∈ schedL l, 1 ≤ z ∧ z ≤ 50 := by
  unfold schedL
  split
  · exact ⟨by simp, by simp, by simp⟩
  · rename_i h
    have := List.length_pos_iff.2 h
    refine ⟨by simp; omega, by simp; omega, ?_⟩
    intro z hz
    obtain ⟨y, _, rfl⟩ := List.mem_map.1 hz
    unfold shareX
    have := Nat.mod_lt (y % 18446744073709551616).toNat (show 0 < 50 by omega)
    omega
theorem schedL_good (l : List Int) : ¬ badL (schedL l) := by
  obtain ⟨h1, h2, h3⟩ := schedL_ok l
  rintro (h | h)
  · obtain ⟨z, hz, hw⟩ := List.any_eq_true.1 h
    have := h3 z hz
    unfold wrongB at hw
    simp at hw
    omega
  · omega
set_option maxRecDepth 10000 in
set_option maxHeartbeats 1000000 in
theorem sched_ok {A : Option Addr} {cap : Nat} {l : List Int} {w0 : World} (h : RdL w0 intE A cap l) :
    Fn Try.prog 10 [.slice A l.length cap] w0 fun v w' => ∃ (x : SdX) (B : Option Addr) (c : Nat), v = .tuple #[.pointer (some ⟨x.g, 0, none⟩), .slice B (schedL l).length c] ∧ x.s = newS (schedL l) ∧ x.ok ∧ Mem w0 w' (x.L ++ [Asr.lst intE B c (schedL l)]) := by
  have M := Mem.refl w0
  obtain ⟨w, hw⟩ : ∃ w, w = w0 := ⟨w0, rfl⟩
  have hS := schedL_ok l
  refine Fn.enter Try.func10 rfl Try.ntmps10 rfl ?_
  refine W.sub [(0, _)] (.cons rfl .nil) ?_
  refine W.seq ?_
  refine W.region ?_
  refine WL.assign rfl rfl ?_
  refine WL.assign rfl rfl ?_
  refine WL.nil ?_
  refine WX.next ?_
  refine W.sub [(0, _)] (.cons rfl .nil) ?_
  refine W.seq ?_
  refine W.region ?_
  refine WL.assign rfl rfl ?_
  refine WL.nil ?_
  refine WX.next ?_
  refine W.sub [(0, _), (4, _)] (.cons rfl (.cons rfl .nil)) ?_
  refine W.seq ?_
  refine W.seq ?_
  refine W.region ?_
  refine WL.assign rfl rfl ?_
  refine WL.nil ?_
  refine WX.next ?_
  refine W.sub [(0, _), (4, _), (5, _)] (.cons rfl (.cons rfl (.cons rfl .nil))) ?_
  refine W.block ?_
  refine W.loop (ι := Nat × (Option Addr × Nat × List Int)) (fun z => [(0, .slice A l.length cap), (4, .slice z.2.1 z.2.2.2.length z.2.2.1), (5, .int .i64 (z.1 : Int))]) (fun zz w => Mem w0 w ((fun z => [Asr.lst intE z.2.1 z.2.2.1 z.2.2.2]) zz) ∧ (fun z => z.1 ≤ l.length ∧ z.1 ≤ 8 ∧ z.2.2.2 = (l.take z.1).map shareX) zz) (fun z => 8 - z.1) ((0, (none, 0, []))) (by (repeat' (first | exact envSub.nil | refine envSub.cons ?_ ?_)) <;> first | rfl | (refine congrArg some ?_; refine congrArg (Value.int _) ?_; first | omega | (dsimp only; omega)) | (simp; done) | (refine congrArg some ?_; dsimp only; congr 1; omega) | (simp; omega)) ⟨M.nilOwn 3 1, ⟨by simp, by simp, rfl⟩⟩ ?_
  clear M; rintro (⟨i, B, c, T⟩) w ⟨M, ⟨hi, hi8, hT⟩⟩; dsimp only at M hi hi8 hT ⊢
  refine W.sub [(0, _), (4, _), (5, _)] (.cons rfl (.cons rfl (.cons rfl .nil))) ?_
  refine W.seq ?_
  refine W.seq ?_
  refine W.region ?_
  refine WL.move rfl rfl ?_
  refine WL.move rfl rfl ?_
  refine WL.len Try.underlying22 rfl rfl ?_
  refine WL.lss rfl rfl rfl ?_
  refine WL.moveIf rfl rfl (fun c0 => ?_) (fun c0 => ?_)
  · refine WL.on rfl rfl ?_
    refine WL.move rfl rfl ?_
    refine WL.on rfl rfl ?_
    refine WL.lss rfl rfl rfl ?_
    refine WL.pickT rfl rfl rfl ?_
    refine WL.nil ?_
    refine WX.next ?_
    refine W.sub [(0, _), (4, _), (5, _), (15, _)] (.cons rfl (.cons rfl (.cons rfl (.cons rfl .nil)))) ?_
    refine W.ite rfl (fun c1 => ?_) (fun c1 => ?_)
    · obtain ⟨a, ha⟩ : ∃ a : Nat, IntKind.u64.wrap (el l i) = (a : Int) := ⟨((el l i) % 18446744073709551616).toNat, by rw [mU64]; omega⟩
      have ha' : ((el l i) % 18446744073709551616).toNat = a := by rw [mU64] at ha; omega
      have hlt := Nat.mod_lt a (show 0 < 50 by omega)
      have hTl : T.length = i := by rw [hT]; simp; omega
      refine W.skip ?_
      refine WX.next ?_
      refine W.seq ?_
      refine W.block ?_
      refine W.region ?_
      refine WL.move rfl rfl ?_
      refine WL.move rfl rfl ?_
      refine WL.move rfl rfl ?_
      refine WL.idxA Try.underlying22 Try.sizeOf3 rfl rfl (RdL.isSome (E := intE) (by first | with_reducible assumption | with_reducible exact RdL.mem (by with_reducible assumption) M | exact M.rdL (by first | ((repeat (first | with_reducible exact Has.here | with_reducible refine Has.there ?_)); done) | (repeat (first | exact Has.here | refine Has.there ?_))) | exact RdLH.at (by assumption) (M.sel (by first | ((repeat (first | with_reducible exact Sel.refl | with_reducible exact Sel.nil | with_reducible exact Del.here | with_reducible apply Del.there | with_reducible apply Sel.cons | with_reducible apply Sel.drop)); done) | (repeat (first | exact Sel.refl | exact Sel.nil | exact Del.here | apply Del.there | apply Sel.cons | apply Sel.drop)))) | exact RdL.nil _ _ _) (by omega)) (by omega) (by omega) (by first | exact rfl | exact (Int.toNat_of_nonneg (by omega)).symm) rfl ?_
      refine WL.loadE0 (E := intE) Try.isAgg3 rfl (by first | with_reducible assumption | with_reducible exact RdL.mem (by with_reducible assumption) M | exact M.rdL (by first | ((repeat (first | with_reducible exact Has.here | with_reducible refine Has.there ?_)); done) | (repeat (first | exact Has.here | refine Has.there ?_))) | exact RdLH.at (by assumption) (M.sel (by first | ((repeat (first | with_reducible exact Sel.refl | with_reducible exact Sel.nil | with_reducible exact Del.here | with_reducible apply Del.there | with_reducible apply Sel.cons | with_reducible apply Sel.drop)); done) | (repeat (first | exact Sel.refl | exact Sel.nil | exact Del.here | apply Del.there | apply Sel.cons | apply Sel.drop)))) | exact RdL.nil _ _ _) (by omega) rfl rfl ?_
      refine WL.conv Try.underlying3 Try.underlying43 rfl ha rfl ?_
      refine WL.rem rfl rfl (by omega) (remN (by omega)) rfl ?_
      refine WL.conv Try.underlying43 Try.underlying3 rfl (by first | exact wI64 (by omega) | rfl) rfl ?_
      refine WL.add rfl rfl (show IntKind.i64.wrap (1 + (a : Int) % 50) = shareX (el l i) by rw [wI64 (by omega)]; unfold shareX; rw [ha']; omega) rfl ?_
      refine WL.buildL (E := intE) (l := [shareX (el l i)]) Try.elem3 M rfl rfl rfl rfl rfl rfl ?_
      intro g5_9 w M
      refine WL.appendL (E := intE) Try.elem3 rfl rfl M (by first | ((repeat (first | with_reducible exact Del.here | with_reducible apply Del.there)); done) | (repeat (first | exact Del.here | apply Del.there))) (by first | with_reducible assumption | with_reducible exact RdL.mem (by with_reducible assumption) M | exact M.rdL (by first | ((repeat (first | with_reducible exact Has.here | with_reducible refine Has.there ?_)); done) | (repeat (first | exact Has.here | refine Has.there ?_))) | exact RdLH.at (by assumption) (M.sel (by first | ((repeat (first | with_reducible exact Sel.refl | with_reducible exact Sel.nil | with_reducible exact Del.here | with_reducible apply Del.there | with_reducible apply Sel.cons | with_reducible apply Sel.drop)); done) | (repeat (first | exact Sel.refl | exact Sel.nil | exact Del.here | apply Del.there | apply Sel.cons | apply Sel.drop)))) | exact RdL.nil _ _ _) rfl rfl (by first | omega | (simp; done) | (simp; omega)) (by first | (simp only [maxLen]; omega) | (simp [maxLen]; done) | (simp [maxLen]; omega)) rfl ?_
      intro A5_10 cap5_10 w M
      refine WL.assign rfl rfl ?_
      refine WL.nil ?_
      refine WX.blockNormal ?_
      refine WX.next ?_
      refine W.sub [(0, _), (4, _), (5, _)] (.cons rfl (.cons rfl (.cons rfl .nil))) ?_
      refine W.region ?_
      refine WL.move rfl rfl ?_
      refine WL.add rfl rfl (by first | exact wI64 (by omega) | rfl) rfl ?_
      refine WL.assign rfl rfl ?_
      refine WL.nil ?_
      skip
      have q : T ++ [shareX (el l i)] = (l.take (i + 1)).map shareX := by rw [hT, List.take_add_one, el_get (by omega)]; simp
      refine WX.round ((i + 1, (A5_10, cap5_10, T ++ [shareX (el l i)]))) (by (repeat' (first | exact envSub.nil | refine envSub.cons ?_ ?_)) <;> first | rfl | (refine congrArg some ?_; refine congrArg (Value.int _) ?_; first | omega | (dsimp only; omega)) | (simp; done) | (refine congrArg some ?_; dsimp only; congr 1; omega) | (simp; omega)) ⟨M.sel (by first | ((repeat (first | with_reducible exact Sel.refl | with_reducible exact Sel.nil | with_reducible exact Del.here | with_reducible apply Del.there | with_reducible apply Sel.cons | with_reducible apply Sel.drop)); done) | (repeat (first | exact Sel.refl | exact Sel.nil | exact Del.here | apply Del.there | apply Sel.cons | apply Sel.drop))), ⟨by dsimp only; omega, by dsimp only; omega, q⟩⟩ (by first | omega | (dsimp only; omega))
    · refine W.exit ?_
      refine WX.thenExit ?_
      refine WX.thenExit ?_
      refine WX.blockHere ?_
      refine WX.next ?_
      refine W.joint (fun (z : Option Addr × Nat) => [(4, .slice z.1 (schedL l).length z.2)]) (fun j w => Mem w0 w ((fun z => [Asr.lst intE z.1 z.2 (schedL l)]) j) ∧ (fun _ => True) j) ?_ ?_
      · refine W.seq ?_
        have hT8 : T = (l.take 8).map shareX := by
          rw [hT]
          congr 1
          rcases Nat.lt_or_ge i 8 with h8 | h8
          · rw [List.take_of_length_le (by omega), List.take_of_length_le (by omega)]
          · rw [show i = 8 by omega]
        refine W.region ?_
        refine WL.move rfl rfl ?_
        refine WL.len Try.underlying22 rfl rfl ?_
        refine WL.eqI rfl rfl rfl ?_
        refine WL.nil ?_
        refine WX.next ?_
        refine W.sub [(4, _), (31, _)] (.cons rfl (.cons rfl .nil)) ?_
        refine W.ite rfl (fun c2 => ?_) (fun c2 => ?_)
        · have hl0 : l = [] := by
            apply List.eq_nil_of_length_eq_zero
            have := congrArg List.length hT8
            simp at this
            omega
          have hS0 : schedL l = [3] := by unfold schedL; rw [if_pos hl0]
          refine W.region ?_
          refine WL.buildL (E := intE) (l := [_]) Try.elem3 M rfl rfl rfl rfl rfl rfl ?_
          intro g7_0 w M
          refine WL.assign rfl rfl ?_
          refine WL.nil ?_
          skip
          rw [show ([3] : List Int) = schedL l from hS0.symm] at M
          refine WX.join ((some ⟨g7_0, 0, none⟩, 1)) (envSub.cons (by rw [hS0]; rfl) envSub.nil) ⟨M.sel (by first | ((repeat (first | with_reducible exact Sel.refl | with_reducible exact Sel.nil | with_reducible exact Del.here | with_reducible apply Del.there | with_reducible apply Sel.cons | with_reducible apply Sel.drop)); done) | (repeat (first | exact Sel.refl | exact Sel.nil | exact Del.here | apply Del.there | apply Sel.cons | apply Sel.drop))), trivial⟩
        · have hS1 : schedL l = T := by
            unfold schedL
            rw [if_neg, hT8]
            intro h0
            rw [h0] at hT8
            exact c2 (by rw [hT8]; rfl)
          refine W.skip ?_
          skip
          rw [← hS1] at M
          refine WX.join ((B, c)) (envSub.cons (by rw [hS1]; rfl) envSub.nil) ⟨M.sel (by first | ((repeat (first | with_reducible exact Sel.refl | with_reducible exact Sel.nil | with_reducible exact Del.here | with_reducible apply Del.there | with_reducible apply Sel.cons | with_reducible apply Sel.drop)); done) | (repeat (first | exact Sel.refl | exact Sel.nil | exact Del.here | apply Del.there | apply Sel.cons | apply Sel.drop))), trivial⟩
      clear M; rintro (⟨B2, k2⟩) w ⟨M, -⟩; dsimp only at M ⊢
      refine W.sub [(4, _)] (.cons rfl .nil) ?_
      refine W.seq ?_
      refine W.region ?_
      refine WL.move rfl rfl ?_
      refine WL.call Try.call17 rfl (New_ok (l := schedL l) (by first | with_reducible assumption | with_reducible exact RdL.mem (by with_reducible assumption) M | exact M.rdL (by first | ((repeat (first | with_reducible exact Has.here | with_reducible refine Has.there ?_)); done) | (repeat (first | exact Has.here | refine Has.there ?_))) | exact RdLH.at (by assumption) (M.sel (by first | ((repeat (first | with_reducible exact Sel.refl | with_reducible exact Sel.nil | with_reducible exact Del.here | with_reducible apply Del.there | with_reducible apply Sel.cons | with_reducible apply Sel.drop)); done) | (repeat (first | exact Sel.refl | exact Sel.nil | exact Del.here | apply Del.there | apply Sel.cons | apply Sel.drop)))) | exact RdL.nil _ _ _) (by omega)) rfl ?_
      rintro _ w h
      obtain ⟨x, rfl, hxs, hxo, m⟩ : ∃ x : SdX, _ = Value.tuple #[.pointer (some ⟨x.g, 0, none⟩), .int .i64 0] ∧ x.s = newS (schedL l) ∧ x.ok ∧ Mem _ w x.L := by
        rcases h with ⟨hb, _⟩ | ⟨_, h⟩
        · exact absurd hb (schedL_good l)
        · exact h
      replace M := M.callN m; clear m
      refine WL.move rfl rfl ?_
      refine WL.extractL rfl rfl rfl ?_
      refine WL.extractL rfl rfl rfl ?_
      refine WL.assign rfl rfl ?_
      refine WL.assign rfl rfl ?_
      refine WL.nil ?_
      refine WX.next ?_
      refine W.sub [(4, _), (6, _), (7, _)] (.cons rfl (.cons rfl (.cons rfl .nil))) ?_
      refine W.seq ?_
      refine W.seq ?_
      refine W.region ?_
      refine WL.move rfl rfl ?_
      refine WL.neI rfl rfl rfl ?_
      refine WL.nil ?_
      refine WX.next ?_
      refine W.sub [(4, _), (6, _), (39, _)] (.cons rfl (.cons rfl (.cons rfl .nil))) ?_
      refine W.ite rfl (fun c3 => ?_) (fun c3 => ?_)
      · exact absurd rfl c3
      · refine W.skip ?_
        refine WX.next ?_
        refine W.seq ?_
        refine W.region ?_
        refine WL.move rfl rfl ?_
        refine WL.move rfl rfl ?_
        refine WL.assign rfl rfl ?_
        refine WL.assign rfl rfl ?_
        refine WL.nil ?_
        refine WX.next ?_
        refine W.sub [(2, _), (3, _)] (.cons rfl (.cons rfl .nil)) ?_
        refine W.ret ?_
        refine WX.ret2 rfl rfl rfl ?_
        exact ⟨x, B2, k2, rfl, hxs, hxo, M.sel (by first | ((repeat (first | with_reducible exact Sel.refl | with_reducible exact Sel.nil | with_reducible exact Del.here | with_reducible apply Del.there | with_reducible apply Sel.cons | with_reducible apply Sel.drop)); done) | (repeat (first | exact Sel.refl | exact Sel.nil | exact Del.here | apply Del.there | apply Sel.cons | apply Sel.drop)))⟩
  · refine WL.off rfl rfl rfl rfl ?_
    refine WL.off rfl rfl rfl rfl ?_
    refine WL.pickF rfl rfl rfl ?_
    refine WL.nil ?_
    refine WX.next ?_
    refine W.sub [(0, _), (4, _), (5, _), (15, _)] (.cons rfl (.cons rfl (.cons rfl (.cons rfl .nil)))) ?_
    refine W.condF rfl ?_
    refine W.exit ?_
    refine WX.thenExit ?_
    refine WX.thenExit ?_
    refine WX.blockHere ?_
    refine WX.next ?_
    refine W.joint (fun (z : Option Addr × Nat) => [(4, .slice z.1 (schedL l).length z.2)]) (fun j w => Mem w0 w ((fun z => [Asr.lst intE z.1 z.2 (schedL l)]) j) ∧ (fun _ => True) j) ?_ ?_
    · refine W.seq ?_
      have hT8 : T = (l.take 8).map shareX := by
        rw [hT]
        congr 1
        rcases Nat.lt_or_ge i 8 with h8 | h8
        · rw [List.take_of_length_le (by omega), List.take_of_length_le (by omega)]
        · rw [show i = 8 by omega]
      refine W.region ?_
      refine WL.move rfl rfl ?_
      refine WL.len Try.underlying22 rfl rfl ?_
      refine WL.eqI rfl rfl rfl ?_
      refine WL.nil ?_
      refine WX.next ?_
      refine W.sub [(4, _), (31, _)] (.cons rfl (.cons rfl .nil)) ?_
      refine W.ite rfl (fun c2 => ?_) (fun c2 => ?_)
      · have hl0 : l = [] := by
          apply List.eq_nil_of_length_eq_zero
          have := congrArg List.length hT8
          simp at this
          omega
        have hS0 : schedL l = [3] := by unfold schedL; rw [if_pos hl0]
        refine W.region ?_
        refine WL.buildL (E := intE) (l := [_]) Try.elem3 M rfl rfl rfl rfl rfl rfl ?_
        intro g7_0 w M
        refine WL.assign rfl rfl ?_
        refine WL.nil ?_
        skip
        rw [show ([3] : List Int) = schedL l from hS0.symm] at M
        refine WX.join ((some ⟨g7_0, 0, none⟩, 1)) (envSub.cons (by rw [hS0]; rfl) envSub.nil) ⟨M.sel (by first | ((repeat (first | with_reducible exact Sel.refl | with_reducible exact Sel.nil | with_reducible exact Del.here | with_reducible apply Del.there | with_reducible apply Sel.cons | with_reducible apply Sel.drop)); done) | (repeat (first | exact Sel.refl | exact Sel.nil | exact Del.here | apply Del.there | apply Sel.cons | apply Sel.drop))), trivial⟩
      · have hS1 : schedL l = T := by
          unfold schedL
          rw [if_neg, hT8]
          intro h0
          rw [h0] at hT8
          exact c2 (by rw [hT8]; rfl)
        refine W.skip ?_
        skip
        rw [← hS1] at M
        refine WX.join ((B, c)) (envSub.cons (by rw [hS1]; rfl) envSub.nil) ⟨M.sel (by first | ((repeat (first | with_reducible exact Sel.refl | with_reducible exact Sel.nil | with_reducible exact Del.here | with_reducible apply Del.there | with_reducible apply Sel.cons | with_reducible apply Sel.drop)); done) | (repeat (first | exact Sel.refl | exact Sel.nil | exact Del.here | apply Del.there | apply Sel.cons | apply Sel.drop))), trivial⟩
    clear M; rintro (⟨B2, k2⟩) w ⟨M, -⟩; dsimp only at M ⊢
    refine W.sub [(4, _)] (.cons rfl .nil) ?_
    refine W.seq ?_
    refine W.region ?_
    refine WL.move rfl rfl ?_
    refine WL.call Try.call17 rfl (New_ok (l := schedL l) (by first | with_reducible assumption | with_reducible exact RdL.mem (by with_reducible assumption) M | exact M.rdL (by first | ((repeat (first | with_reducible exact Has.here | with_reducible refine Has.there ?_)); done) | (repeat (first | exact Has.here | refine Has.there ?_))) | exact RdLH.at (by assumption) (M.sel (by first | ((repeat (first | with_reducible exact Sel.refl | with_reducible exact Sel.nil | with_reducible exact Del.here | with_reducible apply Del.there | with_reducible apply Sel.cons | with_reducible apply Sel.drop)); done) | (repeat (first | exact Sel.refl | exact Sel.nil | exact Del.here | apply Del.there | apply Sel.cons | apply Sel.drop)))) | exact RdL.nil _ _ _) (by omega)) rfl ?_
    rintro _ w h
    obtain ⟨x, rfl, hxs, hxo, m⟩ : ∃ x : SdX, _ = Value.tuple #[.pointer (some ⟨x.g, 0, none⟩), .int .i64 0] ∧ x.s = newS (schedL l) ∧ x.ok ∧ Mem _ w x.L := by
      rcases h with ⟨hb, _⟩ | ⟨_, h⟩
      · exact absurd hb (schedL_good l)
      · exact h
    replace M := M.callN m; clear m
    refine WL.move rfl rfl ?_
    refine WL.extractL rfl rfl rfl ?_
    refine WL.extractL rfl rfl rfl ?_
    refine WL.assign rfl rfl ?_
    refine WL.assign rfl rfl ?_
    refine WL.nil ?_
    refine WX.next ?_
    refine W.sub [(4, _), (6, _), (7, _)] (.cons rfl (.cons rfl (.cons rfl .nil))) ?_
    refine W.seq ?_
    refine W.seq ?_
    refine W.region ?_
    refine WL.move rfl rfl ?_
    refine WL.neI rfl rfl rfl ?_
    refine WL.nil ?_
    refine WX.next ?_
    refine W.sub [(4, _), (6, _), (39, _)] (.cons rfl (.cons rfl (.cons rfl .nil))) ?_
    refine W.ite rfl (fun c3 => ?_) (fun c3 => ?_)
    · exact absurd rfl c3
    · refine W.skip ?_
      refine WX.next ?_
      refine W.seq ?_
      refine W.region ?_
      refine WL.move rfl rfl ?_
      refine WL.move rfl rfl ?_
      refine WL.assign rfl rfl ?_
      refine WL.assign rfl rfl ?_
      refine WL.nil ?_
      refine WX.next ?_
      refine W.sub [(2, _), (3, _)] (.cons rfl (.cons rfl .nil)) ?_
      refine W.ret ?_
      refine WX.ret2 rfl rfl rfl ?_
      exact ⟨x, B2, k2, rfl, hxs, hxo, M.sel (by first | ((repeat (first | with_reducible exact Sel.refl | with_reducible exact Sel.nil | with_reducible exact Del.here | with_reducible apply Del.there | with_reducible apply Sel.cons | with_reducible apply Sel.drop)); done) | (repeat (first | exact Sel.refl | exact Sel.nil | exact Del.here | apply Del.there | apply Sel.cons | apply Sel.drop)))⟩
/-- Pop where nothing waits, and where something does. -/
theorem Pop0_ok (x : SdX) (hok : x.ok) (h0 : nJ x.s.fl = 0) (w0 w : World) (L : List Asr) (M : Mem w0 w (x.L ++ L)) :
    Fn Try.prog 13 [.pointer (some ⟨x.g, 0, none⟩)] w fun v w' => v = .tuple #[JX.v ⟨0, 0, 0⟩, .bool false] ∧ Mem w0 w' (x.L ++ L) :=
  (Pop_ok x hok w0 w L M).mono fun v w' h => by
    rcases h with ⟨_, h⟩ | ⟨hn, _⟩
    · exact h
    · exact absurd h0 hn
theorem Pop1_ok (x : SdX) (hok : x.ok) (hn : nJ x.s.fl ≠ 0) (w0 w : World) (L : List Asr) (M : Mem w0 w (x.L ++ L)) :
    Fn Try.prog 13 [.pointer (some ⟨x.g, 0, none⟩)] w fun v w' => ∃ x' : SdX, v = .tuple #[(popJ x.s).v, .bool true] ∧ x.g = x'.g ∧ x'.s = popS x.s ∧ x'.ok ∧ Mem w0 w' (x'.L ++ L) :=
  (Pop_ok x hok w0 w L M).mono fun v w' h => by
    rcases h with ⟨h0, _⟩ | ⟨_, h⟩
    · exact absurd h0 hn
    · exact h
theorem Push1_ok (x : SdX) (hok : x.ok) (j : JX) (w0 w : World) (L : List Asr) (M : Mem w0 w (x.L ++ L)) :
    Fn Try.prog 12 [.pointer (some ⟨x.g, 0, none⟩), j.v] w fun v w' => ∃ x' : SdX, v = .int .i64 (pushE x.s j) ∧ x.g = x'.g ∧ x'.s = pushS x.s j ∧ x'.ok ∧ Mem w0 w' (x'.L ++ L) :=
  (Push_ok x hok.s hok.n j w0 w L M).mono fun v w' ⟨x', h1, h2, h3, h4, h5⟩ => ⟨x', h1, h2, h3, ⟨by rw [h3]; exact hok.s.push j, h4⟩, h5⟩
end Go.Proofs.Ytdhmopmfnnlhcaa
