/-
  Rules, laws and walks, part 3 of 11.
-/
import Derived.Test.YtlminileigfkcaaGreatFarB
import Derived.MapKept
import Derived.Maps.RangeRun
import Derived.RangeFuncNested
import Derived.RangeFuncLeaves
import Derived.OwnWalkIn
namespace Go.Proofs.YtlminileigfkcaaGreat
open Go Go.RowKit Go.Lib Bin
def cgE : Enc Cg := ⟨63, 3, fun c => [str c.key, str c.value, .bool c.gone], fun _ => rfl, (fun a v hv => by
 simp only [List.mem_cons, List.not_mem_nil, or_false] at hv
 rcases hv with rfl | rfl | rfl <;> rfl), by decide⟩
theorem Tryz.elem63 : Elem Tryz.prog 22 63 3 40 := by
 obtain ⟨i, hi, h1, h2, h3⟩ := info_parts (P := Tryz.prog) (e := 63) (z := .agg #[str [], str [], .bool false]) (size := 3) (bytes := 40) (by kernel_rfl)
 exact ⟨Tryz.underlying22, ⟨i, _, hi, h1, h2, h3, rfl⟩, by decide⟩
section
variable {A : Option Addr} {cap : Nat} {l : List Cg} {w0 : World}
theorem rightE_bad {i : Nat} (hi : i < l.length) (h : ¬ (el l i).right) : rightE l = 2 := by
 unfold rightE
 rw [if_neg (fun hr => h (hr.2 _ (el_mem hi)))]
theorem rightE_long (h : 32 < l.length) : rightE l = 2 := by
 unfold rightE
 rw [if_neg (fun hr => by have := hr.1; omega)]
theorem rightE_good (h1 : l.length ≤ 32) (h : ∀ j, j < l.length → (el l j).right) : rightE l = 0 := by
 unfold rightE
 rw [if_pos ⟨h1, fun c hc => by
  obtain ⟨j, hj, e⟩ := List.getElem_of_mem hc
  have := h j hj
  rw [show el l j = c by rw [← e]; simp [el, hj]] at this
  exact this⟩]
theorem stRight_ok (hr : RdL w0 cgE A cap l) : Fn Tryz.prog 42 [.slice A l.length cap] w0 fun v w' => v = .int .i64 (rightE l : Int) ∧ Mem w0 w' [] := by
 have M := Mem.refl w0
 obtain ⟨w, hw⟩ : ∃ w, w = w0 := ⟨w0, rfl⟩
 refine Fn.enter Tryz.func42 rfl Tryz.ntmps42 rfl (W.sub [(0, _)] (.cons rfl .nil) (W.seq (W.region (WL.assign rfl rfl (WL.nil (WX.next (W.sub [(0, _)] (.cons rfl .nil) (W.seq (W.seq (W.region (WL.move rfl rfl (WL.len Tryz.underlying22 rfl rfl (WL.gtr rfl rfl rfl (WL.nil (WX.next (W.sub [(0, _), (7, _)] (.cons rfl (.cons rfl .nil)) (W.ite rfl (fun c0 => ?_) (fun c0 => ?_))))))))))))))))))
 ·refine W.seq (W.region (WL.assign rfl rfl (WL.nil (WX.next (W.sub [(2, _)] (.cons rfl .nil) (W.ret (WX.thenRet (WX.ret1 rfl rfl ?_))))))))
  exact ⟨by rw [rightE_long (by omega)]; rfl, M.sel Sel.a⟩
 ·refine W.skip (WX.next (W.seq (W.seq (W.region (WL.move rfl rfl (WL.len Tryz.underlying22 rfl rfl (WL.move rfl rfl (WL.nil (WX.next (W.sub [(8, _), (9, _), (10, _)] (.cons rfl (.cons rfl (.cons rfl .nil))) (W.block (W.loop (ι := Nat) (fun i => [(8, .slice A l.length cap), (9, .int .i64 (l.length : Int)), (10, .int .i64 (i : Int))]) (fun zz w => Mem w0 w ((fun _ => []) zz) ∧ (fun i => i ≤ l.length ∧ ∀ j, j < i → (el l j).right) zz) (fun i => l.length - i) (0) envSub.sf ⟨M.sel Sel.a, ⟨Nat.zero_le _, fun j hj => absurd hj (Nat.not_lt_zero _)⟩⟩ ?_))))))))))))
  clear M; rintro (i) w ⟨M, ⟨hi, hs⟩⟩; dsimp only at M hi hs ⊢
  refine W.sub [(8, _), (9, _), (10, _)] (.cons rfl (.cons rfl (.cons rfl .nil))) (W.seq (W.region (WL.lss rfl rfl rfl (WL.nil (WX.next (W.sub [(8, _), (9, _), (10, _), (11, _)] (.cons rfl (.cons rfl (.cons rfl (.cons rfl .nil)))) (W.seq (W.ite rfl (fun c1 => ?_) (fun c1 => ?_)))))))))
  ·have hil : i < l.length := by omega
   refine W.skip (WX.next (W.seq (W.block (W.seq (W.region (WL.idxA Tryz.underlying22 Tryz.sizeOf63 rfl rfl (RdL.isSome (E := cgE) (by first | with_reducible assumption | with_reducible exact RdL.mem (by with_reducible assumption) M | exact M.rdL Has.a | exact RdLH.at (by assumption) (M.sel Sel.a) | exact RdL.nil _ _ _) (by omega)) (by omega) (by omega) (by first | exact rfl | exact (Int.toNat_of_nonneg (by omega)).symm) rfl ?_))))))
   refine WL.loadL (E := cgE) (cs := [_, _, _]) Tryz.isAgg63 Tryz.sizeOf63 rfl (by first | with_reducible assumption | with_reducible exact RdL.mem (by with_reducible assumption) M | exact M.rdL Has.a | exact RdLH.at (by assumption) (M.sel Sel.a) | exact RdL.nil _ _ _) rfl (by omega) rfl rfl ?_
   refine WL.alloc Tryz.zeroValue63 M rfl ?_
   intro g5_2 w M
   try simp only [Value.cells] at M
   try simp only [List.toList_toArray] at M
   refine WL.storeWA Tryz.sizeOf63 rfl rfl (by repeat (first | exact oneNil | refine oneCons rfl ?_)) rfl rfl M Upd.a ?_
   intro w M
   refine WL.nil (WX.next (W.sub [(4, _), (8, _), (9, _), (10, _)] (.cons rfl (.cons rfl (.cons rfl (.cons rfl .nil)))) (W.seq (W.region (WL.fieldR (off := 0) Tryz.underlying63 rfl rfl Tryz.sizeOf9 rfl rfl rfl ?_)))))
   refine WL.loadR Tryz.isAgg9 rfl M Has.a rfl rfl (WL.eqS rfl rfl rfl (WL.moveIf rfl rfl (fun c2 => ?_) (fun c2 => ?_)))
   ·refine WL.off rfl rfl rfl rfl (WL.off rfl rfl rfl rfl (WL.off rfl rfl rfl rfl (WL.off rfl rfl rfl rfl (WL.pickT rfl rfl rfl (WL.move rfl rfl (WL.off rfl rfl rfl rfl (WL.off rfl rfl rfl rfl (WL.off rfl rfl rfl rfl (WL.off rfl rfl rfl rfl (WL.pickT rfl rfl rfl (WL.move rfl rfl (WL.off rfl rfl rfl rfl (WL.off rfl rfl rfl rfl (WL.off rfl rfl rfl rfl (WL.offU rfl rfl rfl (WL.offU rfl rfl rfl (WL.offU rfl rfl rfl (WL.off rfl rfl rfl rfl (WL.pickT rfl rfl rfl (WL.nil (WX.next (W.sub [(8, _), (9, _), (10, _), (37, _)] (.cons rfl (.cons rfl (.cons rfl (.cons rfl .nil)))) (W.condT rfl (W.seq (W.region (WL.assign rfl rfl (WL.nil (WX.next (W.sub [(2, _)] (.cons rfl .nil) (W.ret (WX.blockRet (WX.thenRet (WX.thenRet (WX.blockRet (WX.thenRet (WX.ret1 rfl rfl ?_))))))))))))))))))))))))))))))))))))
    exact ⟨by rw [rightE_bad hil (fun h => by have := h.1; rw [c2] at this; simp at this)]; rfl, M.sel Sel.a⟩
   ·refine WL.on rfl rfl (WL.fieldR (off := 0) Tryz.underlying63 rfl rfl Tryz.sizeOf9 rfl rfl rfl ?_)
    refine WL.on rfl rfl (WL.loadR Tryz.isAgg9 rfl M Has.a rfl rfl (WL.on rfl rfl (WL.lenS Tryz.underlying9 rfl rfl (WL.on rfl rfl (WL.gtr rfl rfl rfl (WL.pickF rfl rfl rfl (WL.moveIf rfl rfl (fun c3 => ?_) (fun c3 => ?_))))))))
    ·refine WL.off rfl rfl rfl rfl (WL.off rfl rfl rfl rfl (WL.off rfl rfl rfl rfl (WL.off rfl rfl rfl rfl (WL.pickT rfl rfl rfl (WL.move rfl rfl (WL.off rfl rfl rfl rfl (WL.off rfl rfl rfl rfl (WL.off rfl rfl rfl rfl (WL.offU rfl rfl rfl (WL.offU rfl rfl rfl (WL.offU rfl rfl rfl (WL.off rfl rfl rfl rfl (WL.pickT rfl rfl rfl (WL.nil (WX.next (W.sub [(8, _), (9, _), (10, _), (37, _)] (.cons rfl (.cons rfl (.cons rfl (.cons rfl .nil)))) (W.condT rfl (W.seq (W.region (WL.assign rfl rfl (WL.nil (WX.next (W.sub [(2, _)] (.cons rfl .nil) (W.ret (WX.blockRet (WX.thenRet (WX.thenRet (WX.blockRet (WX.thenRet (WX.ret1 rfl rfl ?_))))))))))))))))))))))))))))))
     exact ⟨by rw [rightE_bad hil (fun h => by have := h.2.1; omega)]; rfl, M.sel Sel.a⟩
    ·refine WL.on rfl rfl (WL.fieldR (off := 1) Tryz.underlying63 rfl rfl Tryz.sizeOf9 rfl rfl rfl ?_)
     refine WL.on rfl rfl (WL.loadR Tryz.isAgg9 rfl M Has.a rfl rfl (WL.on rfl rfl (WL.lenS Tryz.underlying9 rfl rfl (WL.on rfl rfl (WL.gtr rfl rfl rfl (WL.pickF rfl rfl rfl (WL.moveIf rfl rfl (fun c4 => ?_) (fun c4 => ?_))))))))
     ·refine WL.off rfl rfl rfl rfl (WL.off rfl rfl rfl rfl (WL.off rfl rfl rfl rfl (WL.offU rfl rfl rfl (WL.offU rfl rfl rfl (WL.offU rfl rfl rfl (WL.off rfl rfl rfl rfl (WL.pickT rfl rfl rfl (WL.nil (WX.next (W.sub [(8, _), (9, _), (10, _), (37, _)] (.cons rfl (.cons rfl (.cons rfl (.cons rfl .nil)))) (W.condT rfl (W.seq (W.region (WL.assign rfl rfl (WL.nil (WX.next (W.sub [(2, _)] (.cons rfl .nil) (W.ret (WX.blockRet (WX.thenRet (WX.thenRet (WX.blockRet (WX.thenRet (WX.ret1 rfl rfl ?_))))))))))))))))))))))))
      exact ⟨by rw [rightE_bad hil (fun h => by have := h.2.2.1; omega)]; rfl, M.sel Sel.a⟩
     ·refine WL.on rfl rfl (WL.fieldR (off := 2) Tryz.underlying63 rfl rfl Tryz.sizeOf4 rfl rfl rfl ?_)
      refine WL.on rfl rfl (WL.loadR Tryz.isAgg4 rfl M Has.a rfl rfl (WL.on rfl rfl (WL.moveIfB rfl rfl (fun c5 => ?_) (fun c5 => ?_))))
      ·refine WL.on rfl rfl (WL.fieldR (off := 1) Tryz.underlying63 rfl rfl Tryz.sizeOf9 rfl rfl rfl ?_)
       refine WL.on rfl rfl (WL.loadR Tryz.isAgg9 rfl M Has.a rfl rfl (WL.on rfl rfl (WL.neS rfl rfl rfl (WL.on rfl rfl (WL.pickT rfl rfl rfl (WL.pickF rfl rfl rfl (WL.nil (WX.next (W.sub [(8, _), (9, _), (10, _), (37, _)] (.cons rfl (.cons rfl (.cons rfl (.cons rfl .nil)))) (W.ite rfl (fun c6 => ?_) (fun c6 => ?_)))))))))))
       ·refine W.seq (W.region (WL.assign rfl rfl (WL.nil (WX.next (W.sub [(2, _)] (.cons rfl .nil) (W.ret (WX.blockRet (WX.thenRet (WX.thenRet (WX.blockRet (WX.thenRet (WX.ret1 rfl rfl ?_))))))))))))
        exact ⟨by rw [rightE_bad hil (fun h => h.2.2.2 ⟨c5, c6⟩)]; rfl, M.sel Sel.a⟩
       ·refine W.skip (WX.blockNormal (WX.next (W.region (WL.add rfl rfl (by first | exact wI64 (by omega) | rfl) rfl ?_))))
        refine WL.move rfl rfl (WL.nil ?_)
        skip
        have hk : 1 ≤ (el l i).key.length := by
         rcases Nat.lt_or_ge 0 (el l i).key.length with h | h
         ·exact h
         ·exact absurd (List.eq_nil_of_length_eq_zero (by omega)) c2
        have q0 : (el l i).right := ⟨hk, by omega, by omega, fun h => h.2 (by simpa using c6)⟩
        have q : ∀ j, j < i + 1 → (el l j).right := by
         intro j hj
         rcases Nat.lt_or_ge j i with h1 | h1
         ·exact hs j h1
         ·obtain rfl : j = i := by omega
          exact q0
        refine WX.round (i + 1) envSub.sf ⟨M.sel Sel.a, ⟨by omega, q⟩⟩ (by first | omega | (dsimp only; omega))
      ·refine WL.off rfl rfl rfl rfl (WL.off rfl rfl rfl rfl (WL.off rfl rfl rfl rfl (WL.on rfl rfl (WL.pickF rfl rfl rfl (WL.pickF rfl rfl rfl (WL.nil (WX.next (W.sub [(8, _), (9, _), (10, _), (37, _)] (.cons rfl (.cons rfl (.cons rfl (.cons rfl .nil)))) (W.condF rfl (W.skip (WX.blockNormal (WX.next (W.region (WL.add rfl rfl (by first | exact wI64 (by omega) | rfl) rfl ?_))))))))))))))
       refine WL.move rfl rfl (WL.nil ?_)
       skip
       have hk : 1 ≤ (el l i).key.length := by
        rcases Nat.lt_or_ge 0 (el l i).key.length with h | h
        ·exact h
        ·exact absurd (List.eq_nil_of_length_eq_zero (by omega)) c2
       have q0 : (el l i).right := ⟨hk, by omega, by omega, fun h => absurd h.1 (by simpa using c5)⟩
       have q : ∀ j, j < i + 1 → (el l j).right := by
        intro j hj
        rcases Nat.lt_or_ge j i with h1 | h1
        ·exact hs j h1
        ·obtain rfl : j = i := by omega
         exact q0
       refine WX.round (i + 1) envSub.sf ⟨M.sel Sel.a, ⟨by omega, q⟩⟩ (by first | omega | (dsimp only; omega))
  ·refine W.exit (WX.thenExit (WX.thenExit (WX.blockHere (WX.next (W.seq (W.region (WL.assign rfl rfl (WL.nil (WX.next (W.sub [(2, _)] (.cons rfl .nil) (W.ret (WX.ret1 rfl rfl ?_))))))))))))
   obtain rfl : i = l.length := by omega
   exact ⟨by rw [rightE_good (by omega) hs]; rfl, M.sel Sel.a⟩
theorem refRight_ok (hr : RdL w0 cgE A cap l) : Fn Tryz.prog 101 [.slice A l.length cap] w0 fun v w' => v = .int .i64 (rightE l : Int) ∧ Mem w0 w' [] := by
 have M := Mem.refl w0
 obtain ⟨w, hw⟩ : ∃ w, w = w0 := ⟨w0, rfl⟩
 refine Fn.enter Tryz.func101 rfl Tryz.ntmps101 rfl (W.sub [(0, _)] (.cons rfl .nil) (W.seq (W.region (WL.assign rfl rfl (WL.nil (WX.next (W.sub [(0, _)] (.cons rfl .nil) (W.seq (W.seq (W.region (WL.move rfl rfl (WL.len Tryz.underlying22 rfl rfl (WL.gtr rfl rfl rfl (WL.nil (WX.next (W.sub [(0, _), (7, _)] (.cons rfl (.cons rfl .nil)) (W.ite rfl (fun c0 => ?_) (fun c0 => ?_))))))))))))))))))
 ·refine W.seq (W.region (WL.assign rfl rfl (WL.nil (WX.next (W.sub [(2, _)] (.cons rfl .nil) (W.ret (WX.thenRet (WX.ret1 rfl rfl ?_))))))))
  exact ⟨by rw [rightE_long (by omega)]; rfl, M.sel Sel.a⟩
 ·refine W.skip (WX.next (W.seq (W.seq (W.region (WL.assign rfl rfl (WL.nil (WX.next (W.sub [(0, _), (3, _)] (.cons rfl (.cons rfl .nil)) (W.block (W.loop (ι := Nat) (fun i => [(0, .slice A l.length cap), (3, .int .i64 (i : Int))]) (fun zz w => Mem w0 w ((fun _ => []) zz) ∧ (fun i => i ≤ l.length ∧ ∀ j, j < i → (el l j).right) zz) (fun i => l.length - i) (0) envSub.sf ⟨M.sel Sel.a, ⟨Nat.zero_le _, fun j hj => absurd hj (Nat.not_lt_zero _)⟩⟩ ?_))))))))))
  clear M; rintro (i) w ⟨M, ⟨hi, hs⟩⟩; dsimp only at M hi hs ⊢
  refine W.sub [(0, _), (3, _)] (.cons rfl (.cons rfl .nil)) (W.seq (W.seq (W.region (WL.move rfl rfl (WL.move rfl rfl (WL.len Tryz.underlying22 rfl rfl (WL.lss rfl rfl rfl (WL.nil (WX.next (W.sub [(0, _), (3, _), (11, _)] (.cons rfl (.cons rfl (.cons rfl .nil))) (W.ite rfl (fun c1 => ?_) (fun c1 => ?_))))))))))))
  ·have hil : i < l.length := by omega
   refine W.skip (WX.next (W.seq (W.block (W.seq (W.region (WL.move rfl rfl (WL.move rfl rfl (WL.idxA Tryz.underlying22 Tryz.sizeOf63 rfl rfl (RdL.isSome (E := cgE) (by first | with_reducible assumption | with_reducible exact RdL.mem (by with_reducible assumption) M | exact M.rdL Has.a | exact RdLH.at (by assumption) (M.sel Sel.a) | exact RdL.nil _ _ _) (by omega)) (by omega) (by omega) (by first | exact rfl | exact (Int.toNat_of_nonneg (by omega)).symm) rfl ?_))))))))
   refine WL.loadL (E := cgE) (cs := [_, _, _]) Tryz.isAgg63 Tryz.sizeOf63 rfl (by first | with_reducible assumption | with_reducible exact RdL.mem (by with_reducible assumption) M | exact M.rdL Has.a | exact RdLH.at (by assumption) (M.sel Sel.a) | exact RdL.nil _ _ _) rfl (by omega) rfl rfl ?_
   refine WL.alloc Tryz.zeroValue63 M rfl ?_
   intro g6_4 w M
   try simp only [Value.cells] at M
   try simp only [List.toList_toArray] at M
   refine WL.storeWA Tryz.sizeOf63 rfl rfl (by repeat (first | exact oneNil | refine oneCons rfl ?_)) rfl rfl M Upd.a ?_
   intro w M
   refine WL.nil (WX.next (W.sub [(0, _), (3, _), (4, _)] (.cons rfl (.cons rfl (.cons rfl .nil))) (W.seq (W.region (WL.fieldR (off := 0) Tryz.underlying63 rfl rfl Tryz.sizeOf9 rfl rfl rfl ?_)))))
   refine WL.loadR Tryz.isAgg9 rfl M Has.a rfl rfl (WL.lenS Tryz.underlying9 rfl rfl (WL.lss rfl rfl rfl (WL.moveIf rfl rfl (fun c2 => ?_) (fun c2 => ?_))))
   ·refine WL.off rfl rfl rfl rfl (WL.off rfl rfl rfl rfl (WL.off rfl rfl rfl rfl (WL.off rfl rfl rfl rfl (WL.pickT rfl rfl rfl (WL.move rfl rfl (WL.off rfl rfl rfl rfl (WL.off rfl rfl rfl rfl (WL.off rfl rfl rfl rfl (WL.off rfl rfl rfl rfl (WL.pickT rfl rfl rfl (WL.move rfl rfl (WL.off rfl rfl rfl rfl (WL.off rfl rfl rfl rfl (WL.off rfl rfl rfl rfl (WL.offU rfl rfl rfl (WL.offU rfl rfl rfl (WL.offU rfl rfl rfl (WL.offU rfl rfl rfl (WL.off rfl rfl rfl rfl (WL.pickT rfl rfl rfl (WL.nil (WX.next (W.sub [(0, _), (3, _), (43, _)] (.cons rfl (.cons rfl (.cons rfl .nil))) (W.condT rfl (W.seq (W.region (WL.assign rfl rfl (WL.nil (WX.next (W.sub [(2, _)] (.cons rfl .nil) (W.ret (WX.blockRet (WX.thenRet (WX.thenRet (WX.blockRet (WX.thenRet (WX.ret1 rfl rfl ?_)))))))))))))))))))))))))))))))))))))
    exact ⟨by rw [rightE_bad hil (fun h => by have := h.1; omega)]; rfl, M.sel Sel.a⟩
   ·refine WL.on rfl rfl (WL.fieldR (off := 0) Tryz.underlying63 rfl rfl Tryz.sizeOf9 rfl rfl rfl ?_)
    refine WL.on rfl rfl (WL.loadR Tryz.isAgg9 rfl M Has.a rfl rfl (WL.on rfl rfl (WL.lenS Tryz.underlying9 rfl rfl (WL.on rfl rfl (WL.gtr rfl rfl rfl (WL.pickF rfl rfl rfl (WL.moveIf rfl rfl (fun c3 => ?_) (fun c3 => ?_))))))))
    ·refine WL.off rfl rfl rfl rfl (WL.off rfl rfl rfl rfl (WL.off rfl rfl rfl rfl (WL.off rfl rfl rfl rfl (WL.pickT rfl rfl rfl (WL.move rfl rfl (WL.off rfl rfl rfl rfl (WL.off rfl rfl rfl rfl (WL.off rfl rfl rfl rfl (WL.offU rfl rfl rfl (WL.offU rfl rfl rfl (WL.offU rfl rfl rfl (WL.offU rfl rfl rfl (WL.off rfl rfl rfl rfl (WL.pickT rfl rfl rfl (WL.nil (WX.next (W.sub [(0, _), (3, _), (43, _)] (.cons rfl (.cons rfl (.cons rfl .nil))) (W.condT rfl (W.seq (W.region (WL.assign rfl rfl (WL.nil (WX.next (W.sub [(2, _)] (.cons rfl .nil) (W.ret (WX.blockRet (WX.thenRet (WX.thenRet (WX.blockRet (WX.thenRet (WX.ret1 rfl rfl ?_)))))))))))))))))))))))))))))))
     exact ⟨by rw [rightE_bad hil (fun h => by have := h.2.1; omega)]; rfl, M.sel Sel.a⟩
    ·refine WL.on rfl rfl (WL.fieldR (off := 1) Tryz.underlying63 rfl rfl Tryz.sizeOf9 rfl rfl rfl ?_)
     refine WL.on rfl rfl (WL.loadR Tryz.isAgg9 rfl M Has.a rfl rfl (WL.on rfl rfl (WL.lenS Tryz.underlying9 rfl rfl (WL.on rfl rfl (WL.gtr rfl rfl rfl (WL.pickF rfl rfl rfl (WL.moveIf rfl rfl (fun c4 => ?_) (fun c4 => ?_))))))))
     ·refine WL.off rfl rfl rfl rfl (WL.off rfl rfl rfl rfl (WL.off rfl rfl rfl rfl (WL.offU rfl rfl rfl (WL.offU rfl rfl rfl (WL.offU rfl rfl rfl (WL.offU rfl rfl rfl (WL.off rfl rfl rfl rfl (WL.pickT rfl rfl rfl (WL.nil (WX.next (W.sub [(0, _), (3, _), (43, _)] (.cons rfl (.cons rfl (.cons rfl .nil))) (W.condT rfl (W.seq (W.region (WL.assign rfl rfl (WL.nil (WX.next (W.sub [(2, _)] (.cons rfl .nil) (W.ret (WX.blockRet (WX.thenRet (WX.thenRet (WX.blockRet (WX.thenRet (WX.ret1 rfl rfl ?_)))))))))))))))))))))))))
      exact ⟨by rw [rightE_bad hil (fun h => by have := h.2.2.1; omega)]; rfl, M.sel Sel.a⟩
     ·refine WL.on rfl rfl (WL.fieldR (off := 2) Tryz.underlying63 rfl rfl Tryz.sizeOf4 rfl rfl rfl ?_)
      refine WL.on rfl rfl (WL.loadR Tryz.isAgg4 rfl M Has.a rfl rfl (WL.on rfl rfl (WL.moveIfB rfl rfl (fun c5 => ?_) (fun c5 => ?_))))
      ·refine WL.on rfl rfl (WL.fieldR (off := 1) Tryz.underlying63 rfl rfl Tryz.sizeOf9 rfl rfl rfl ?_)
       refine WL.on rfl rfl (WL.loadR Tryz.isAgg9 rfl M Has.a rfl rfl (WL.on rfl rfl (WL.lenS Tryz.underlying9 rfl rfl (WL.on rfl rfl (WL.gtr rfl rfl rfl (WL.on rfl rfl (WL.pickT rfl rfl rfl (WL.pickF rfl rfl rfl (WL.nil (WX.next (W.sub [(0, _), (3, _), (43, _)] (.cons rfl (.cons rfl (.cons rfl .nil))) (W.ite rfl (fun c6 => ?_) (fun c6 => ?_)))))))))))))
       ·refine W.seq (W.region (WL.assign rfl rfl (WL.nil (WX.next (W.sub [(2, _)] (.cons rfl .nil) (W.ret (WX.blockRet (WX.thenRet (WX.thenRet (WX.blockRet (WX.thenRet (WX.ret1 rfl rfl ?_))))))))))))
        exact ⟨by rw [rightE_bad hil (fun h => h.2.2.2 ⟨c5, fun h0 => by rw [h0] at c6; simp at c6⟩)]; rfl, M.sel Sel.a⟩
       ·refine W.skip (WX.blockNormal (WX.next (W.region (WL.move rfl rfl (WL.add rfl rfl (by first | exact wI64 (by omega) | rfl) rfl ?_)))))
        refine WL.assign rfl rfl (WL.nil ?_)
        skip
        have q0 : (el l i).right := ⟨by omega, by omega, by omega, fun h => h.2 (List.eq_nil_of_length_eq_zero (by omega))⟩
        have q : ∀ j, j < i + 1 → (el l j).right := by
         intro j hj
         rcases Nat.lt_or_ge j i with h1 | h1
         ·exact hs j h1
         ·obtain rfl : j = i := by omega
          exact q0
        refine WX.round (i + 1) envSub.sf ⟨M.sel Sel.a, ⟨by omega, q⟩⟩ (by first | omega | (dsimp only; omega))
      ·refine WL.off rfl rfl rfl rfl (WL.off rfl rfl rfl rfl (WL.off rfl rfl rfl rfl (WL.off rfl rfl rfl rfl (WL.on rfl rfl (WL.pickF rfl rfl rfl (WL.pickF rfl rfl rfl (WL.nil (WX.next (W.sub [(0, _), (3, _), (43, _)] (.cons rfl (.cons rfl (.cons rfl .nil))) (W.condF rfl (W.skip (WX.blockNormal (WX.next (W.region (WL.move rfl rfl (WL.add rfl rfl (by first | exact wI64 (by omega) | rfl) rfl ?_))))))))))))))))
       refine WL.assign rfl rfl (WL.nil ?_)
       skip
       have q0 : (el l i).right := ⟨by omega, by omega, by omega, fun h => absurd h.1 (by simpa using c5)⟩
       have q : ∀ j, j < i + 1 → (el l j).right := by
        intro j hj
        rcases Nat.lt_or_ge j i with h1 | h1
        ·exact hs j h1
        ·obtain rfl : j = i := by omega
         exact q0
       refine WX.round (i + 1) envSub.sf ⟨M.sel Sel.a, ⟨by omega, q⟩⟩ (by first | omega | (dsimp only; omega))
  ·refine W.exit (WX.thenExit (WX.thenExit (WX.blockHere (WX.next (W.seq (W.region (WL.assign rfl rfl (WL.nil (WX.next (W.sub [(2, _)] (.cons rfl .nil) (W.ret (WX.ret1 rfl rfl ?_))))))))))))
   obtain rfl : i = l.length := by omega
   exact ⟨by rw [rightE_good (by omega) hs]; rfl, M.sel Sel.a⟩
def encP (l : List Cg) (i : Nat) : List UInt8 := put l.length ++ (l.take i).flatMap encC
theorem encP_succ {i : Nat} (hi : i < l.length) : encP l (i + 1) = encP l i ++ encC (el l i) := by
 unfold encP
 rw [List.take_succ_eq_append_getElem hi, List.flatMap_append, List.append_assoc, show l[i] = el l i by simp [el, hi]]
 simp
theorem encP_all : encP l l.length = encB l := by unfold encP encB; rw [List.take_length]
theorem txtB_len {s : List UInt8} (h : s.length < 100000) : (txtB s).length ≤ s.length + 10 := by
 unfold txtB
 have := put_len10 (n := s.length) (by omega)
 rw [List.length_append]
 omega
theorem encC_len {c : Cg} (h : c.right) : (encC c).length ≤ 200 := by
 obtain ⟨h1, h2, h3, _⟩ := h
 have := txtB_len (s := c.key) (by omega)
 have := txtB_len (s := c.value) (by omega)
 unfold encC
 rw [List.length_append]
 split
 ·simp; omega
 ·simp only [List.length_cons]; omega
theorem encP_len (hl : l.length ≤ 32) (h : ∀ j, j < l.length → (el l j).right) : ∀ i, i ≤ l.length → (encP l i).length ≤ 10 + 200 * i
 | 0, _ => by
   have := put_len10 (n := l.length) (by omega)
   unfold encP
   simp
   omega
 | i + 1, hi => by
   have h1 := encP_len hl h i (by omega)
   have h2 := encC_len (h i (by omega))
   rw [encP_succ (by omega), List.length_append]
   omega
set_option maxRecDepth 10000 in
theorem stEncode_ok (hr : RdL w0 cgE A cap l) : Fn Tryz.prog 71 [.slice A l.length cap] w0 fun v w' => ∃ A' c', v = .tuple #[.slice A' (encV l).length c', .int .i64 (encE l : Int)] ∧ Mem w0 w' [Asr.own 5 1 A' (encV l).length c' (bs (encV l))] := by
 have M := Mem.refl w0
 obtain ⟨w, hw⟩ : ∃ w, w = w0 := ⟨w0, rfl⟩
 have bad : ∀ (e : Nat) (w : World) (L : List Asr), Mem w0 w L → e ≠ 0 → encE l = e → ∃ A' c', Value.tuple #[.slice none 0 0, .int .i64 (e : Int)] = .tuple #[.slice A' (encV l).length c', .int .i64 (encE l : Int)] ∧ Mem w0 w [Asr.own 5 1 A' (encV l).length c' (bs (encV l))] := by
  intro e w L M he hg
  have hv : encV l = [] := by unfold encV; rw [if_neg (by omega)]
  rw [hv, hg]
  exact ⟨none, 0, rfl, (M.sel (.nil)).nilOwn 5 1⟩
 refine Fn.enter Tryz.func71 rfl Tryz.ntmps71 rfl (W.sub [(0, _)] (.cons rfl .nil) (W.seq (W.region (WL.assign rfl rfl (WL.assign rfl rfl (WL.nil (WX.next (W.sub [(0, _)] (.cons rfl .nil) (W.seq (W.seq (W.region (WL.move rfl rfl (WL.call Tryz.call42 rfl (stRight_ok (hr.mem M)) rfl ?_)))))))))))))
 rintro _ w ⟨rfl, m⟩
 replace M := M.call0 m; clear m
 refine WL.assign rfl rfl (WL.nil (WX.next (W.sub [(0, _), (4, _)] (.cons rfl (.cons rfl .nil)) (W.seq (W.region (WL.move rfl rfl (WL.neI rfl rfl rfl (WL.nil (WX.next (W.sub [(0, _), (4, _), (11, _)] (.cons rfl (.cons rfl (.cons rfl .nil))) (W.ite rfl (fun c0 => ?_) (fun c0 => ?_))))))))))))
 ·have hnr : ¬ rightB l := fun h => by unfold rightE at c0; rw [if_pos h] at c0; exact c0 rfl
  have e2 : rightE l = 2 := by unfold rightE; rw [if_neg hnr]
  rw [e2]
  refine W.seq (W.region (WL.move rfl rfl (WL.assign rfl rfl (WL.assign rfl rfl (WL.nil (WX.next (W.sub [(2, _), (3, _)] (.cons rfl (.cons rfl .nil)) (W.ret (WX.thenRet (WX.ret2 rfl rfl rfl ?_))))))))))
  exact bad 2 _ _ M (by decide) (by unfold encE; rw [if_neg hnr])
 ·have hrb : rightB l := Classical.byContradiction fun h => c0 (by unfold rightE; rw [if_neg h]; decide)
  have h32 := hrb.1
  have hre : ∀ j, j < l.length → (el l j).right := fun j hj => hrb.2 _ (el_mem hj)
  have hel := encP_len h32 hre
  refine W.skip (WX.next (W.seq (W.region (WL.move rfl rfl (WL.len Tryz.underlying22 rfl rfl (WL.conv Tryz.underlying3 Tryz.underlying47 rfl (by first | exact wU64 (by omega) | exact mU64 _ | rfl) rfl ?_))))))
  refine WL.call Tryz.call68 rfl (PutUint_ok l.length (by omega) _) rfl ?_
  rintro _ w ⟨A5, c5, rfl, m⟩
  replace M := M.call1 m; clear m
  rw [show put l.length = encP l 0 by unfold encP; simp] at M ⊢
  refine WL.assign rfl rfl (WL.nil (WX.next (W.sub [(0, _), (5, _)] (.cons rfl (.cons rfl .nil)) (W.seq (W.seq (W.region (WL.move rfl rfl (WL.len Tryz.underlying22 rfl rfl (WL.move rfl rfl (WL.nil (WX.next (W.sub [(5, _), (17, _), (18, _), (19, _)] (.cons rfl (.cons rfl (.cons rfl (.cons rfl .nil)))) (W.block (W.loop (ι := Nat × Option Addr × Nat) (fun z => [(5, .slice z.2.1 (encP l z.1).length z.2.2), (17, .slice A l.length cap), (18, .int .i64 (l.length : Int)), (19, .int .i64 (z.1 : Int))]) (fun zz w => Mem w0 w ((fun z => [Asr.own 5 1 z.2.1 (encP l z.1).length z.2.2 (bs (encP l z.1))]) zz) ∧ (fun z => z.1 ≤ l.length) zz) (fun z => l.length - z.1) ((0, A5, c5)) envSub.sf ⟨M.sel Sel.a, Nat.zero_le _⟩ ?_))))))))))))))
  clear M; rintro (⟨i, Ab, cb⟩) w ⟨M, hi⟩; dsimp only at M hi ⊢
  refine W.sub [(5, _), (17, _), (18, _), (19, _)] (.cons rfl (.cons rfl (.cons rfl (.cons rfl .nil)))) (W.seq (W.region (WL.lss rfl rfl rfl (WL.nil (WX.next (W.sub [(5, _), (17, _), (18, _), (19, _), (20, _)] (.cons rfl (.cons rfl (.cons rfl (.cons rfl (.cons rfl .nil))))) (W.seq (W.ite rfl (fun c1 => ?_) (fun c1 => ?_)))))))))
  ·have hil : i < l.length := by omega
   have h1 := hel i (by omega)
   have h2 := hel (i + 1) (by omega)
   have hcr := hre i hil
   obtain ⟨k1, k2, k3, k4⟩ := hcr
   have h3 := encC_len (hre i hil)
   have h4 := txtB_len (s := (el l i).key) (by omega)
   have h5 := txtB_len (s := (el l i).value) (by omega)
   have hsucc := encP_succ hil
   refine W.skip (WX.next (W.seq (W.block (W.seq (W.region (WL.idxA Tryz.underlying22 Tryz.sizeOf63 rfl rfl (RdL.isSome (E := cgE) (by first | with_reducible assumption | with_reducible exact RdL.mem (by with_reducible assumption) M | exact M.rdL Has.a | exact RdLH.at (by assumption) (M.sel Sel.a) | exact RdL.nil _ _ _) (by omega)) (by omega) (by omega) (by first | exact rfl | exact (Int.toNat_of_nonneg (by omega)).symm) rfl ?_))))))
   refine WL.loadL (E := cgE) (cs := [_, _, _]) Tryz.isAgg63 Tryz.sizeOf63 rfl (by first | with_reducible assumption | with_reducible exact RdL.mem (by with_reducible assumption) M | exact M.rdL Has.a | exact RdLH.at (by assumption) (M.sel Sel.a) | exact RdL.nil _ _ _) rfl (by omega) rfl rfl ?_
   refine WL.alloc Tryz.zeroValue63 M rfl ?_
   intro g7_2 w M
   try simp only [Value.cells] at M
   try simp only [List.toList_toArray] at M
   refine WL.storeWA Tryz.sizeOf63 rfl rfl (by repeat (first | exact oneNil | refine oneCons rfl ?_)) rfl rfl M Upd.a ?_
   intro w M
   refine WL.nil (WX.next (W.sub [(5, _), (7, _), (17, _), (18, _), (19, _)] (.cons rfl (.cons rfl (.cons rfl (.cons rfl (.cons rfl .nil))))) (W.seq (W.region (WL.move rfl rfl (WL.fieldR (off := 0) Tryz.underlying63 rfl rfl Tryz.sizeOf9 rfl rfl rfl ?_))))))
   refine WL.loadR Tryz.isAgg9 rfl M Has.a rfl rfl (WL.ofStrH (l := (el l i).key) Tryz.underlying9 Tryz.underlying84 Tryz.underlying5 rfl M rfl ?_)
   intro g8 sp8 cap8 w hc8 M
   refine WL.call Tryz.call106 rfl (PutBytes_ok (el l i).key (some ⟨g8, 0, none⟩) cap8 _ (M.rdS Has.a hc8) (by omega)) rfl ?_
   rintro _ w ⟨A9, c9, rfl, m⟩
   replace M := M.call1 m; clear m
   rw [show put (el l i).key.length ++ (el l i).key = txtB (el l i).key from rfl] at M ⊢
   refine WL.appendBH Tryz.elem5 rfl rfl M Del.a (by first | first | with_reducible assumption | with_reducible exact RdB.mem (by with_reducible assumption) M | exact M.rdB Has.a | exact RdH.at (by assumption) (M.sel Sel.a) | exact M.rdLit' Has.a | exact M.rdLent Has.a | exact RdB.nil _ _ | exact RdB.sub (by first | with_reducible assumption | with_reducible exact RdB.mem (by with_reducible assumption) M | exact M.rdB Has.a | exact RdH.at (by assumption) (M.sel Sel.a) | exact M.rdLit' Has.a | exact M.rdLent Has.a | exact RdB.nil _ _) (by omega) (by omega) | exact RdB.pre' (by first | with_reducible assumption | with_reducible exact RdB.mem (by with_reducible assumption) M | exact M.rdB Has.a | exact RdH.at (by assumption) (M.sel Sel.a) | exact M.rdLit' Has.a | exact M.rdLent Has.a | exact RdB.nil _ _) (by omega) | exact RdB.suf (by first | with_reducible assumption | with_reducible exact RdB.mem (by with_reducible assumption) M | exact M.rdB Has.a | exact RdH.at (by assumption) (M.sel Sel.a) | exact M.rdLit' Has.a | exact M.rdLent Has.a | exact RdB.nil _ _) (by omega)) rfl rfl (by omega) rfl ?_
   intro A8_5 cap8_5 w M
   refine WL.assign rfl rfl (WL.nil (WX.next (W.sub [(5, _), (7, _), (17, _), (18, _), (19, _)] (.cons rfl (.cons rfl (.cons rfl (.cons rfl (.cons rfl .nil))))) (W.seq (W.seq (W.region (WL.fieldR (off := 2) Tryz.underlying63 rfl rfl Tryz.sizeOf4 rfl rfl rfl ?_)))))))
   refine WL.loadR Tryz.isAgg4 rfl M Has.a rfl rfl (WL.nil (WX.next (W.sub [(5, _), (7, _), (17, _), (18, _), (19, _), (30, _)] (.cons rfl (.cons rfl (.cons rfl (.cons rfl (.cons rfl (.cons rfl .nil)))))) (W.cond rfl (fun c2 => ?_) (fun c2 => ?_)))))
   ·(try simp only [Bool.not_eq_true'] at c2); (try simp only [Bool.not_eq_false'] at c2); (try simp only [decide_eq_true_eq] at c2); (try simp only [decide_eq_false_iff_not] at c2)
    refine W.seq (W.region (WL.move rfl rfl ?_))
    refine WL.buildB (es := [_]) Tryz.elem5 M rfl rfl (by apply BytesOf.lit (b := 1) (by decide); exact BytesOf.nil) (by rfl) rfl rfl ?_
    intro g10_1 w M
    refine WL.appendBH Tryz.elem5 rfl rfl M Del.a (by first | first | with_reducible assumption | with_reducible exact RdB.mem (by with_reducible assumption) M | exact M.rdB Has.a | exact RdH.at (by assumption) (M.sel Sel.a) | exact M.rdLit' Has.a | exact M.rdLent Has.a | exact RdB.nil _ _ | exact RdB.sub (by first | with_reducible assumption | with_reducible exact RdB.mem (by with_reducible assumption) M | exact M.rdB Has.a | exact RdH.at (by assumption) (M.sel Sel.a) | exact M.rdLit' Has.a | exact M.rdLent Has.a | exact RdB.nil _ _) (by omega) (by omega) | exact RdB.pre' (by first | with_reducible assumption | with_reducible exact RdB.mem (by with_reducible assumption) M | exact M.rdB Has.a | exact RdH.at (by assumption) (M.sel Sel.a) | exact M.rdLit' Has.a | exact M.rdLent Has.a | exact RdB.nil _ _) (by omega) | exact RdB.suf (by first | with_reducible assumption | with_reducible exact RdB.mem (by with_reducible assumption) M | exact M.rdB Has.a | exact RdH.at (by assumption) (M.sel Sel.a) | exact M.rdLit' Has.a | exact M.rdLent Has.a | exact RdB.nil _ _) (by omega)) rfl rfl (by simp only [List.length_append, List.length_cons, List.length_nil]; omega) rfl ?_
    intro A10_2 cap10_2 w M
    refine WL.assign rfl rfl (WL.nil (WX.next (W.sub [(5, _), (17, _), (18, _), (19, _)] (.cons rfl (.cons rfl (.cons rfl (.cons rfl .nil)))) (W.exit (WX.thenExit (WX.blockHere (WX.next (W.region (WL.add rfl rfl (by first | exact wI64 (by omega) | rfl) rfl ?_)))))))))
    refine WL.move rfl rfl (WL.nil ?_)
    skip
    have q : encP l i ++ txtB (el l i).key ++ [1] = encP l (i + 1) := by rw [hsucc]; unfold encC; rw [if_pos c2, List.append_assoc]
    rw [q] at M ⊢
    refine WX.round ((i + 1, A10_2, cap10_2)) envSub.sf ⟨M.sel Sel.a, (by dsimp only; omega)⟩ (by first | omega | (dsimp only; omega))
   ·(try simp only [Bool.not_eq_true'] at c2); (try simp only [Bool.not_eq_false'] at c2); (try simp only [decide_eq_true_eq] at c2); (try simp only [decide_eq_false_iff_not] at c2)
    refine W.skip (WX.next (W.seq (W.region (WL.move rfl rfl ?_))))
    refine WL.buildB (es := [_]) Tryz.elem5 M rfl rfl (by apply BytesOf.lit (b := 0) (by decide); exact BytesOf.nil) (by rfl) rfl rfl ?_
    intro g11_1 w M
    refine WL.appendBH Tryz.elem5 rfl rfl M Del.a (by first | first | with_reducible assumption | with_reducible exact RdB.mem (by with_reducible assumption) M | exact M.rdB Has.a | exact RdH.at (by assumption) (M.sel Sel.a) | exact M.rdLit' Has.a | exact M.rdLent Has.a | exact RdB.nil _ _ | exact RdB.sub (by first | with_reducible assumption | with_reducible exact RdB.mem (by with_reducible assumption) M | exact M.rdB Has.a | exact RdH.at (by assumption) (M.sel Sel.a) | exact M.rdLit' Has.a | exact M.rdLent Has.a | exact RdB.nil _ _) (by omega) (by omega) | exact RdB.pre' (by first | with_reducible assumption | with_reducible exact RdB.mem (by with_reducible assumption) M | exact M.rdB Has.a | exact RdH.at (by assumption) (M.sel Sel.a) | exact M.rdLit' Has.a | exact M.rdLent Has.a | exact RdB.nil _ _) (by omega) | exact RdB.suf (by first | with_reducible assumption | with_reducible exact RdB.mem (by with_reducible assumption) M | exact M.rdB Has.a | exact RdH.at (by assumption) (M.sel Sel.a) | exact M.rdLit' Has.a | exact M.rdLent Has.a | exact RdB.nil _ _) (by omega)) rfl rfl (by simp only [List.length_append, List.length_cons, List.length_nil]; omega) rfl ?_
    intro A11_2 cap11_2 w M
    refine WL.assign rfl rfl (WL.nil (WX.next (W.sub [(5, _), (7, _), (17, _), (18, _), (19, _)] (.cons rfl (.cons rfl (.cons rfl (.cons rfl (.cons rfl .nil))))) (W.region (WL.move rfl rfl (WL.fieldR (off := 1) Tryz.underlying63 rfl rfl Tryz.sizeOf9 rfl rfl rfl ?_))))))
    refine WL.loadR Tryz.isAgg9 rfl M Has.a rfl rfl (WL.ofStrH (l := (el l i).value) Tryz.underlying9 Tryz.underlying84 Tryz.underlying5 rfl M rfl ?_)
    intro g12 sp12 cap12 w hc12 M
    refine WL.call Tryz.call106 rfl (PutBytes_ok (el l i).value (some ⟨g12, 0, none⟩) cap12 _ (M.rdS Has.a hc12) (by omega)) rfl ?_
    rintro _ w ⟨A13, c13, rfl, m⟩
    replace M := M.call1 m; clear m
    rw [show put (el l i).value.length ++ (el l i).value = txtB (el l i).value from rfl] at M ⊢
    refine WL.appendBH Tryz.elem5 rfl rfl M Del.a (by first | first | with_reducible assumption | with_reducible exact RdB.mem (by with_reducible assumption) M | exact M.rdB Has.a | exact RdH.at (by assumption) (M.sel Sel.a) | exact M.rdLit' Has.a | exact M.rdLent Has.a | exact RdB.nil _ _ | exact RdB.sub (by first | with_reducible assumption | with_reducible exact RdB.mem (by with_reducible assumption) M | exact M.rdB Has.a | exact RdH.at (by assumption) (M.sel Sel.a) | exact M.rdLit' Has.a | exact M.rdLent Has.a | exact RdB.nil _ _) (by omega) (by omega) | exact RdB.pre' (by first | with_reducible assumption | with_reducible exact RdB.mem (by with_reducible assumption) M | exact M.rdB Has.a | exact RdH.at (by assumption) (M.sel Sel.a) | exact M.rdLit' Has.a | exact M.rdLent Has.a | exact RdB.nil _ _) (by omega) | exact RdB.suf (by first | with_reducible assumption | with_reducible exact RdB.mem (by with_reducible assumption) M | exact M.rdB Has.a | exact RdH.at (by assumption) (M.sel Sel.a) | exact M.rdLit' Has.a | exact M.rdLent Has.a | exact RdB.nil _ _) (by omega)) rfl rfl (by simp only [List.length_append, List.length_cons, List.length_nil]; omega) rfl ?_
    intro A12_5 cap12_5 w M
    refine WL.assign rfl rfl (WL.nil (WX.blockNormal (WX.next (W.sub [(5, _), (17, _), (18, _), (19, _)] (.cons rfl (.cons rfl (.cons rfl (.cons rfl .nil)))) (W.region (WL.add rfl rfl (by first | exact wI64 (by omega) | rfl) rfl ?_))))))
    refine WL.move rfl rfl (WL.nil ?_)
    skip
    have q : encP l i ++ txtB (el l i).key ++ [0] ++ txtB (el l i).value = encP l (i + 1) := by rw [hsucc]; unfold encC; rw [if_neg (by simpa using c2)]; simp
    rw [q] at M ⊢
    refine WX.round ((i + 1, A12_5, cap12_5)) envSub.sf ⟨M.sel Sel.a, (by dsimp only; omega)⟩ (by first | omega | (dsimp only; omega))
  ·obtain rfl : i = l.length := by omega
   rw [encP_all] at M ⊢
   refine W.exit (WX.thenExit (WX.thenExit (WX.blockHere (WX.next (W.seq (W.seq (W.region (WL.move rfl rfl (WL.len Tryz.underlying84 rfl rfl (WL.gtr rfl rfl rfl (WL.nil (WX.next (W.sub [(5, _), (46, _)] (.cons rfl (.cons rfl .nil)) (W.ite rfl (fun c3 => ?_) (fun c3 => ?_)))))))))))))))
   ·refine W.seq (W.region (WL.assign rfl rfl (WL.assign rfl rfl (WL.nil (WX.next (W.sub [(2, _), (3, _)] (.cons rfl (.cons rfl .nil)) (W.ret (WX.thenRet (WX.ret2 rfl rfl rfl ?_)))))))))
    exact bad 3 _ _ M (by decide) (by unfold encE; rw [if_pos hrb, if_pos (by omega)])
   ·refine W.skip (WX.next (W.seq (W.region (WL.move rfl rfl (WL.assign rfl rfl (WL.assign rfl rfl (WL.nil (WX.next (W.sub [(2, _), (3, _)] (.cons rfl (.cons rfl .nil)) (W.ret (WX.ret2 rfl rfl rfl ?_)))))))))))
    have e0 : encE l = 0 := by unfold encE; rw [if_pos hrb, if_neg (by omega)]
    have ev : encV l = encB l := by unfold encV; rw [if_pos e0]
    rw [e0, ev]
    exact ⟨Ab, cb, rfl, M.sel Sel.a⟩
set_option maxRecDepth 10000 in
theorem refEncode_ok (hr : RdL w0 cgE A cap l) : Fn Tryz.prog 65 [.slice A l.length cap] w0 fun v w' => ∃ A' c', v = .tuple #[.slice A' (encV l).length c', .int .i64 (encE l : Int)] ∧ Mem w0 w' [Asr.own 5 1 A' (encV l).length c' (bs (encV l))] := by
 have M := Mem.refl w0
 obtain ⟨w, hw⟩ : ∃ w, w = w0 := ⟨w0, rfl⟩
 have bad : ∀ (e : Nat) (w : World) (L : List Asr), Mem w0 w L → e ≠ 0 → encE l = e → ∃ A' c', Value.tuple #[.slice none 0 0, .int .i64 (e : Int)] = .tuple #[.slice A' (encV l).length c', .int .i64 (encE l : Int)] ∧ Mem w0 w [Asr.own 5 1 A' (encV l).length c' (bs (encV l))] := by
  intro e w L M he hg
  have hv : encV l = [] := by unfold encV; rw [if_neg (by omega)]
  rw [hv, hg]
  exact ⟨none, 0, rfl, (M.sel (.nil)).nilOwn 5 1⟩
 refine Fn.enter Tryz.func65 rfl Tryz.ntmps65 rfl (W.sub [(0, _)] (.cons rfl .nil) (W.seq (W.region (WL.assign rfl rfl (WL.assign rfl rfl (WL.nil (WX.next (W.sub [(0, _)] (.cons rfl .nil) (W.seq (W.region (WL.move rfl rfl (WL.call Tryz.call101 rfl (refRight_ok (hr.mem M)) rfl ?_))))))))))))
 rintro _ w ⟨rfl, m⟩
 replace M := M.call0 m; clear m
 refine WL.assign rfl rfl (WL.nil (WX.next (W.sub [(0, _), (4, _)] (.cons rfl (.cons rfl .nil)) (W.seq (W.seq (W.region (WL.move rfl rfl (WL.neI rfl rfl rfl (WL.nil (WX.next (W.sub [(0, _), (4, _), (12, _)] (.cons rfl (.cons rfl (.cons rfl .nil))) (W.ite rfl (fun c0 => ?_) (fun c0 => ?_)))))))))))))
 ·have hnr : ¬ rightB l := fun h => by unfold rightE at c0; rw [if_pos h] at c0; exact c0 rfl
  have e2 : rightE l = 2 := by unfold rightE; rw [if_neg hnr]
  rw [e2]
  refine W.seq (W.region (WL.move rfl rfl (WL.assign rfl rfl (WL.assign rfl rfl (WL.nil (WX.next (W.sub [(2, _), (3, _)] (.cons rfl (.cons rfl .nil)) (W.ret (WX.thenRet (WX.ret2 rfl rfl rfl ?_))))))))))
  exact bad 2 _ _ M (by decide) (by unfold encE; rw [if_neg hnr])
 ·have hrb : rightB l := Classical.byContradiction fun h => c0 (by unfold rightE; rw [if_neg h]; decide)
  have h32 := hrb.1
  have hre : ∀ j, j < l.length → (el l j).right := fun j hj => hrb.2 _ (el_mem hj)
  have hel := encP_len h32 hre
  refine W.skip (WX.next (W.seq (W.region (WL.move rfl rfl (WL.len Tryz.underlying22 rfl rfl (WL.conv Tryz.underlying3 Tryz.underlying47 rfl (by first | exact wU64 (by omega) | exact mU64 _ | rfl) rfl ?_))))))
  refine WL.call Tryz.call102 rfl (refPutUint_ok l.length (by omega) _) rfl ?_
  rintro _ w ⟨A5, c5, rfl, m⟩
  replace M := M.call1 m; clear m
  rw [show put l.length = encP l 0 by unfold encP; simp] at M ⊢
  refine WL.assign rfl rfl (WL.nil (WX.next (W.sub [(0, _), (5, _)] (.cons rfl (.cons rfl .nil)) (W.seq (W.seq (W.region (WL.assign rfl rfl (WL.nil (WX.next (W.sub [(0, _), (5, _), (6, _)] (.cons rfl (.cons rfl (.cons rfl .nil))) (W.block (W.loop (ι := Nat × Option Addr × Nat) (fun z => [(0, .slice A l.length cap), (5, .slice z.2.1 (encP l z.1).length z.2.2), (6, .int .i64 (z.1 : Int))]) (fun zz w => Mem w0 w ((fun z => [Asr.own 5 1 z.2.1 (encP l z.1).length z.2.2 (bs (encP l z.1))]) zz) ∧ (fun z => z.1 ≤ l.length) zz) (fun z => l.length - z.1) ((0, A5, c5)) envSub.sf ⟨M.sel Sel.a, Nat.zero_le _⟩ ?_))))))))))))
  clear M; rintro (⟨i, Ab, cb⟩) w ⟨M, hi⟩; dsimp only at M hi ⊢
  refine W.sub [(0, _), (5, _), (6, _)] (.cons rfl (.cons rfl (.cons rfl .nil))) (W.seq (W.seq (W.region (WL.move rfl rfl (WL.move rfl rfl (WL.len Tryz.underlying22 rfl rfl (WL.lss rfl rfl rfl (WL.nil (WX.next (W.sub [(0, _), (5, _), (6, _), (21, _)] (.cons rfl (.cons rfl (.cons rfl (.cons rfl .nil)))) (W.ite rfl (fun c1 => ?_) (fun c1 => ?_))))))))))))
  ·have hil : i < l.length := by omega
   have h1 := hel i (by omega)
   have h2 := hel (i + 1) (by omega)
   have hcr := hre i hil
   obtain ⟨k1, k2, k3, k4⟩ := hcr
   have h3 := encC_len (hre i hil)
   have h4 := txtB_len (s := (el l i).key) (by omega)
   have h5 := txtB_len (s := (el l i).value) (by omega)
   have hsucc := encP_succ hil
   refine W.skip (WX.next (W.seq (W.block (W.seq (W.region (WL.move rfl rfl (WL.move rfl rfl (WL.idxA Tryz.underlying22 Tryz.sizeOf63 rfl rfl (RdL.isSome (E := cgE) (by first | with_reducible assumption | with_reducible exact RdL.mem (by with_reducible assumption) M | exact M.rdL Has.a | exact RdLH.at (by assumption) (M.sel Sel.a) | exact RdL.nil _ _ _) (by omega)) (by omega) (by omega) (by first | exact rfl | exact (Int.toNat_of_nonneg (by omega)).symm) rfl ?_))))))))
   refine WL.fieldA (off := 0) Tryz.underlying63 rfl rfl Tryz.sizeOf9 rfl rfl rfl ?_
   refine WL.loadE (E := cgE) Tryz.isAgg9 rfl (by first | with_reducible assumption | with_reducible exact RdL.mem (by with_reducible assumption) M | exact M.rdL Has.a | exact RdLH.at (by assumption) (M.sel Sel.a) | exact RdL.nil _ _ _) (by omega) rfl rfl ?_
   refine WL.ofStrH (l := (el l i).key) Tryz.underlying9 Tryz.underlying84 Tryz.underlying5 rfl M rfl ?_
   intro g8 sp8 cap8 w hc8 M
   refine WL.call Tryz.call103 rfl (refPutBytes_ok (el l i).key (some ⟨g8, 0, none⟩) cap8 _ (M.rdS Has.a hc8) (by omega)) rfl ?_
   rintro _ w ⟨A9, c9, rfl, m⟩
   replace M := M.call1 m; clear m
   rw [show put (el l i).key.length ++ (el l i).key = txtB (el l i).key from rfl] at M ⊢
   refine WL.assign rfl rfl (WL.nil (WX.next (W.sub [(0, _), (5, _), (6, _), (7, _)] (.cons rfl (.cons rfl (.cons rfl (.cons rfl .nil)))) (W.seq (W.region (WL.move rfl rfl (WL.move rfl rfl (WL.idxA Tryz.underlying22 Tryz.sizeOf63 rfl rfl (RdL.isSome (E := cgE) (by first | with_reducible assumption | with_reducible exact RdL.mem (by with_reducible assumption) M | exact M.rdL Has.a | exact RdLH.at (by assumption) (M.sel Sel.a) | exact RdL.nil _ _ _) (by omega)) (by omega) (by omega) (by first | exact rfl | exact (Int.toNat_of_nonneg (by omega)).symm) rfl ?_))))))))
   refine WL.fieldA (off := 1) Tryz.underlying63 rfl rfl Tryz.sizeOf9 rfl rfl rfl ?_
   refine WL.loadE (E := cgE) Tryz.isAgg9 rfl (by first | with_reducible assumption | with_reducible exact RdL.mem (by with_reducible assumption) M | exact M.rdL Has.a | exact RdLH.at (by assumption) (M.sel Sel.a) | exact RdL.nil _ _ _) (by omega) rfl rfl ?_
   refine WL.ofStrH (l := (el l i).value) Tryz.underlying9 Tryz.underlying84 Tryz.underlying5 rfl M rfl ?_
   intro g12 sp12 cap12 w hc12 M
   refine WL.call Tryz.call103 rfl (refPutBytes_ok (el l i).value (some ⟨g12, 0, none⟩) cap12 _ (M.rdS Has.a hc12) (by omega)) rfl ?_
   rintro _ w ⟨A13, c13, rfl, m⟩
   replace M := M.call1 m; clear m
   rw [show put (el l i).value.length ++ (el l i).value = txtB (el l i).value from rfl] at M ⊢
   refine WL.assign rfl rfl (WL.nil (WX.next (W.sub [(0, _), (5, _), (6, _), (7, _), (8, _)] (.cons rfl (.cons rfl (.cons rfl (.cons rfl (.cons rfl .nil))))) (W.seq (W.region (WL.move rfl rfl (WL.move rfl rfl (WL.appendBH Tryz.elem5 rfl rfl M Del.a (by first | first | with_reducible assumption | with_reducible exact RdB.mem (by with_reducible assumption) M | exact M.rdB Has.a | exact RdH.at (by assumption) (M.sel Sel.a) | exact M.rdLit' Has.a | exact M.rdLent Has.a | exact RdB.nil _ _ | exact RdB.sub (by first | with_reducible assumption | with_reducible exact RdB.mem (by with_reducible assumption) M | exact M.rdB Has.a | exact RdH.at (by assumption) (M.sel Sel.a) | exact M.rdLit' Has.a | exact M.rdLent Has.a | exact RdB.nil _ _) (by omega) (by omega) | exact RdB.pre' (by first | with_reducible assumption | with_reducible exact RdB.mem (by with_reducible assumption) M | exact M.rdB Has.a | exact RdH.at (by assumption) (M.sel Sel.a) | exact M.rdLit' Has.a | exact M.rdLent Has.a | exact RdB.nil _ _) (by omega) | exact RdB.suf (by first | with_reducible assumption | with_reducible exact RdB.mem (by with_reducible assumption) M | exact M.rdB Has.a | exact RdH.at (by assumption) (M.sel Sel.a) | exact M.rdLit' Has.a | exact M.rdLent Has.a | exact RdB.nil _ _) (by omega)) rfl rfl (by omega) rfl ?_))))))))
   intro A10_2 cap10_2 w M
   refine WL.assign rfl rfl (WL.nil (WX.next (W.sub [(0, _), (5, _), (6, _), (8, _)] (.cons rfl (.cons rfl (.cons rfl (.cons rfl .nil)))) (W.seq (W.region (WL.move rfl rfl (WL.move rfl rfl (WL.idxA Tryz.underlying22 Tryz.sizeOf63 rfl rfl (RdL.isSome (E := cgE) (by first | with_reducible assumption | with_reducible exact RdL.mem (by with_reducible assumption) M | exact M.rdL Has.a | exact RdLH.at (by assumption) (M.sel Sel.a) | exact RdL.nil _ _ _) (by omega)) (by omega) (by omega) (by first | exact rfl | exact (Int.toNat_of_nonneg (by omega)).symm) rfl ?_))))))))
   refine WL.fieldA (off := 2) Tryz.underlying63 rfl rfl Tryz.sizeOf4 rfl rfl rfl ?_
   refine WL.loadE (E := cgE) Tryz.isAgg4 rfl (by first | with_reducible assumption | with_reducible exact RdL.mem (by with_reducible assumption) M | exact M.rdL Has.a | exact RdLH.at (by assumption) (M.sel Sel.a) | exact RdL.nil _ _ _) (by omega) rfl rfl ?_
   refine WL.nil (WX.next (W.sub [(0, _), (5, _), (6, _), (8, _), (45, _)] (.cons rfl (.cons rfl (.cons rfl (.cons rfl (.cons rfl .nil))))) (W.cond rfl (fun c2 => ?_) (fun c2 => ?_))))
   ·(try simp only [Bool.not_eq_true'] at c2); (try simp only [Bool.not_eq_false'] at c2); (try simp only [decide_eq_true_eq] at c2); (try simp only [decide_eq_false_iff_not] at c2)
    refine W.region (WL.move rfl rfl ?_)
    refine WL.buildB (es := [_]) Tryz.elem5 M rfl rfl (by apply BytesOf.lit (b := 1) (by decide); exact BytesOf.nil) (by rfl) rfl rfl ?_
    intro g12_1 w M
    refine WL.appendBH Tryz.elem5 rfl rfl M Del.a (by first | first | with_reducible assumption | with_reducible exact RdB.mem (by with_reducible assumption) M | exact M.rdB Has.a | exact RdH.at (by assumption) (M.sel Sel.a) | exact M.rdLit' Has.a | exact M.rdLent Has.a | exact RdB.nil _ _ | exact RdB.sub (by first | with_reducible assumption | with_reducible exact RdB.mem (by with_reducible assumption) M | exact M.rdB Has.a | exact RdH.at (by assumption) (M.sel Sel.a) | exact M.rdLit' Has.a | exact M.rdLent Has.a | exact RdB.nil _ _) (by omega) (by omega) | exact RdB.pre' (by first | with_reducible assumption | with_reducible exact RdB.mem (by with_reducible assumption) M | exact M.rdB Has.a | exact RdH.at (by assumption) (M.sel Sel.a) | exact M.rdLit' Has.a | exact M.rdLent Has.a | exact RdB.nil _ _) (by omega) | exact RdB.suf (by first | with_reducible assumption | with_reducible exact RdB.mem (by with_reducible assumption) M | exact M.rdB Has.a | exact RdH.at (by assumption) (M.sel Sel.a) | exact M.rdLit' Has.a | exact M.rdLent Has.a | exact RdB.nil _ _) (by omega)) rfl rfl (by simp only [List.length_append, List.length_cons, List.length_nil]; omega) rfl ?_
    intro A12_2 cap12_2 w M
    refine WL.assign rfl rfl (WL.nil (WX.blockNormal (WX.next (W.sub [(0, _), (5, _), (6, _)] (.cons rfl (.cons rfl (.cons rfl .nil))) (W.region (WL.move rfl rfl (WL.add rfl rfl (by first | exact wI64 (by omega) | rfl) rfl ?_)))))))
    refine WL.assign rfl rfl (WL.nil ?_)
    skip
    have q : encP l i ++ txtB (el l i).key ++ [1] = encP l (i + 1) := by rw [hsucc]; unfold encC; rw [if_pos c2, List.append_assoc]
    rw [q] at M ⊢
    refine WX.round ((i + 1, A12_2, cap12_2)) envSub.sf ⟨M.sel Sel.a, (by dsimp only; omega)⟩ (by first | omega | (dsimp only; omega))
   ·(try simp only [Bool.not_eq_true'] at c2); (try simp only [Bool.not_eq_false'] at c2); (try simp only [decide_eq_true_eq] at c2); (try simp only [decide_eq_false_iff_not] at c2)
    refine W.seq (W.region (WL.move rfl rfl ?_))
    refine WL.buildB (es := [_]) Tryz.elem5 M rfl rfl (by apply BytesOf.lit (b := 0) (by decide); exact BytesOf.nil) (by rfl) rfl rfl ?_
    intro g13_1 w M
    refine WL.appendBH Tryz.elem5 rfl rfl M Del.a (by first | first | with_reducible assumption | with_reducible exact RdB.mem (by with_reducible assumption) M | exact M.rdB Has.a | exact RdH.at (by assumption) (M.sel Sel.a) | exact M.rdLit' Has.a | exact M.rdLent Has.a | exact RdB.nil _ _ | exact RdB.sub (by first | with_reducible assumption | with_reducible exact RdB.mem (by with_reducible assumption) M | exact M.rdB Has.a | exact RdH.at (by assumption) (M.sel Sel.a) | exact M.rdLit' Has.a | exact M.rdLent Has.a | exact RdB.nil _ _) (by omega) (by omega) | exact RdB.pre' (by first | with_reducible assumption | with_reducible exact RdB.mem (by with_reducible assumption) M | exact M.rdB Has.a | exact RdH.at (by assumption) (M.sel Sel.a) | exact M.rdLit' Has.a | exact M.rdLent Has.a | exact RdB.nil _ _) (by omega) | exact RdB.suf (by first | with_reducible assumption | with_reducible exact RdB.mem (by with_reducible assumption) M | exact M.rdB Has.a | exact RdH.at (by assumption) (M.sel Sel.a) | exact M.rdLit' Has.a | exact M.rdLent Has.a | exact RdB.nil _ _) (by omega)) rfl rfl (by simp only [List.length_append, List.length_cons, List.length_nil]; omega) rfl ?_
    intro A13_2 cap13_2 w M
    refine WL.assign rfl rfl (WL.nil (WX.next (W.sub [(0, _), (5, _), (6, _), (8, _)] (.cons rfl (.cons rfl (.cons rfl (.cons rfl .nil)))) (W.region (WL.move rfl rfl (WL.move rfl rfl ?_))))))
    refine WL.appendBH Tryz.elem5 rfl rfl M Del.a (by first | first | with_reducible assumption | with_reducible exact RdB.mem (by with_reducible assumption) M | exact M.rdB Has.a | exact RdH.at (by assumption) (M.sel Sel.a) | exact M.rdLit' Has.a | exact M.rdLent Has.a | exact RdB.nil _ _ | exact RdB.sub (by first | with_reducible assumption | with_reducible exact RdB.mem (by with_reducible assumption) M | exact M.rdB Has.a | exact RdH.at (by assumption) (M.sel Sel.a) | exact M.rdLit' Has.a | exact M.rdLent Has.a | exact RdB.nil _ _) (by omega) (by omega) | exact RdB.pre' (by first | with_reducible assumption | with_reducible exact RdB.mem (by with_reducible assumption) M | exact M.rdB Has.a | exact RdH.at (by assumption) (M.sel Sel.a) | exact M.rdLit' Has.a | exact M.rdLent Has.a | exact RdB.nil _ _) (by omega) | exact RdB.suf (by first | with_reducible assumption | with_reducible exact RdB.mem (by with_reducible assumption) M | exact M.rdB Has.a | exact RdH.at (by assumption) (M.sel Sel.a) | exact M.rdLit' Has.a | exact M.rdLent Has.a | exact RdB.nil _ _) (by omega)) rfl rfl (by simp only [List.length_append, List.length_cons, List.length_nil]; omega) rfl ?_
    intro A14_2 cap14_2 w M
    refine WL.assign rfl rfl (WL.nil (WX.blockNormal (WX.next (W.sub [(0, _), (5, _), (6, _)] (.cons rfl (.cons rfl (.cons rfl .nil))) (W.region (WL.move rfl rfl (WL.add rfl rfl (by first | exact wI64 (by omega) | rfl) rfl ?_)))))))
    refine WL.assign rfl rfl (WL.nil ?_)
    skip
    have q : encP l i ++ txtB (el l i).key ++ [0] ++ txtB (el l i).value = encP l (i + 1) := by rw [hsucc]; unfold encC; rw [if_neg (by simpa using c2)]; simp
    rw [q] at M ⊢
    refine WX.round ((i + 1, A14_2, cap14_2)) envSub.sf ⟨M.sel Sel.a, (by dsimp only; omega)⟩ (by first | omega | (dsimp only; omega))
  ·obtain rfl : i = l.length := by omega
   rw [encP_all] at M ⊢
   refine W.exit (WX.thenExit (WX.thenExit (WX.blockHere (WX.next (W.seq (W.seq (W.region (WL.move rfl rfl (WL.len Tryz.underlying84 rfl rfl (WL.gtr rfl rfl rfl (WL.nil (WX.next (W.sub [(5, _), (57, _)] (.cons rfl (.cons rfl .nil)) (W.ite rfl (fun c3 => ?_) (fun c3 => ?_)))))))))))))))
   ·refine W.seq (W.region (WL.assign rfl rfl (WL.assign rfl rfl (WL.nil (WX.next (W.sub [(2, _), (3, _)] (.cons rfl (.cons rfl .nil)) (W.ret (WX.thenRet (WX.ret2 rfl rfl rfl ?_)))))))))
    exact bad 3 _ _ M (by decide) (by unfold encE; rw [if_pos hrb, if_pos (by omega)])
   ·refine W.skip (WX.next (W.seq (W.region (WL.move rfl rfl (WL.assign rfl rfl (WL.assign rfl rfl (WL.nil (WX.next (W.sub [(2, _), (3, _)] (.cons rfl (.cons rfl .nil)) (W.ret (WX.ret2 rfl rfl rfl ?_)))))))))))
    have e0 : encE l = 0 := by unfold encE; rw [if_pos hrb, if_neg (by omega)]
    have ev : encV l = encB l := by unfold encV; rw [if_pos e0]
    rw [e0, ev]
    exact ⟨Ab, cb, rfl, M.sel Sel.a⟩
end
end Go.Proofs.YtlminileigfkcaaGreat
namespace Go.Proofs.YtlminileigfkcaaGreat
open Go Go.RowKit Go.Lib Bin
/-- An item. -/
structure It where
 seq : Nat
 mark : Bool
 c : Cg
deriving Inhabited
def itE : Enc It := ⟨101, 5, fun i => [.int .u64 (i.seq : Int), .bool i.mark, str i.c.key, str i.c.value, .bool i.c.gone], fun _ => rfl, (fun a v hv => by
 simp only [List.mem_cons, List.not_mem_nil, or_false] at hv
 rcases hv with rfl | rfl | rfl | rfl | rfl <;> rfl), by decide⟩
theorem Tryz.elem101 : Elem Tryz.prog 25 101 5 56 := by
 obtain ⟨i, hi, h1, h2, h3⟩ := info_parts (P := Tryz.prog) (e := 101) (z := .agg #[.int .u64 0, .bool false, str [], str [], .bool false]) (size := 5) (bytes := 56) (by kernel_rfl)
 exact ⟨Tryz.underlying25, ⟨i, _, hi, h1, h2, h3, rfl⟩, by decide⟩
abbrev soRow (g : Nat) (A : Option Addr) (n c : Nat) : Asr := Asr.row g 126 [.int .u64 0, .slice A n c]
theorem newSource_ok (w0 : World) : Fn Tryz.prog 17 [] w0 fun v w' => ∃ g, v = .pointer (some ⟨g, 0, none⟩) ∧ Mem w0 w' [soRow g none 0 0, Asr.lst itE none 0 []] := by
 have M := Mem.refl w0
 obtain ⟨w, hw⟩ : ∃ w, w = w0 := ⟨w0, rfl⟩
 refine Fn.enter Tryz.func17 rfl Tryz.ntmps17 rfl (W.sub [] .nil (W.seq (W.region (WL.assign rfl rfl (WL.nil (WX.next (W.sub [] .nil (W.seq (W.region (WL.buildP (places := #[(0, 1), (1, 1)]) Tryz.underlying126 Tryz.zeroValue126 (fun _ => by simp [Tryz.sizeOf47, Tryz.sizeOf25]) rfl (by repeat (first | exact Puts.nil | exact SetAt.zero | apply SetAt.succ | apply Puts.cons rfl rfl)) rfl ?_))))))))))
 refine WL.box rfl M rfl ?_
 intro g1_1 w M
 try simp only [Value.cells] at M
 try simp only [List.toList_toArray] at M
 refine WL.assign rfl rfl (WL.nil (WX.next (W.sub [(0, _)] (.cons rfl .nil) (W.ret (WX.ret1 rfl rfl ?_)))))
 exact ⟨g1_1, rfl, (M.nilOwn 101 5).sel Sel.a⟩
section
variable (w0 w : World) (L L' : List Asr) {g n c : Nat} {A : Option Addr} {l : List It}
theorem moLast_ok (hn : n ≤ 1000) (M : Mem w0 w L) (h : Has (soRow g A n c) L) : Fn Tryz.prog 44 [.pointer (some ⟨g, 0, none⟩)] w fun v w' => v = .int .u64 (n : Int) ∧ Mem w0 w' L := by
 refine Fn.enter Tryz.func44 rfl Tryz.ntmps44 rfl (W.sub [(0, _)] (.cons rfl .nil) (W.seq (W.region (WL.assign rfl rfl (WL.nil (WX.next (W.sub [(0, _)] (.cons rfl .nil) (W.seq (W.seq (W.region (WL.move rfl rfl (WL.eqNilF Tryz.underlying58 rfl rfl rfl (WL.nil (WX.next (W.sub [(0, _), (4, _)] (.cons rfl (.cons rfl .nil)) (W.condF rfl (W.skip (WX.next (W.seq (W.drawM (L) (by kernel_rfl) (fun j => [3, 7, 8, 9].contains j) M Sel.a ?_))))))))))))))))))))
 clear M; intro M
 apply DG.pure_ [0, 1, 2, 4, 5, 6] 6 rfl (by kernel_rfl) (by kernel_rfl)
 ·intro w
  refine WL.move rfl rfl (WL.nilCheck rfl rfl (WL.fieldR (off := 0) Tryz.underlying126 rfl rfl Tryz.sizeOf47 rfl rfl rfl ?_))
  refine WL.move rfl rfl (WL.nilCheck rfl rfl (WL.fieldR (off := 1) Tryz.underlying126 rfl rfl Tryz.sizeOf25 rfl rfl rfl ?_))
  exact Chain.end_ rfl
 apply DG.take [3, 7, 8, 9, 10, 11] 0 rfl (by kernel_rfl) (by kernel_rfl) (M.sel Sel.a)
 ·intro w M
  refine WL.load Tryz.isAgg47 rfl (M.cellH h 0) rfl (WL.load Tryz.isAgg25 rfl (M.cellH h 1) rfl (WL.len Tryz.underlying25 rfl rfl (WL.conv Tryz.underlying3 Tryz.underlying47 rfl (by first | exact wU64 (by omega) | exact mU64 _ | rfl) rfl ?_)))
  refine WL.add rfl rfl (by first | exact wU64 (by omega) | exact mU64 _ | rfl) rfl ?_
  refine WL.assign rfl rfl ?_
  exact Chain.end_ rfl
 refine DG.end_ (by kernel_rfl) ?_
 refine WX.next (W.sub [(2, _)] (.cons rfl .nil) (W.ret (WX.ret1 rfl rfl ?_)))
 exact ⟨by congr 1; omega, M⟩
set_option maxRecDepth 10000 in
theorem moAdd_ok (hl : l.length ≤ 500) (i : It) (M : Mem w0 w (soRow g A l.length c :: Asr.lst itE A c l :: L)) : Fn Tryz.prog 43 [.pointer (some ⟨g, 0, none⟩), .agg #[.int .u64 (i.seq : Int), .bool i.mark, str i.c.key, str i.c.value, .bool i.c.gone]] w fun v w' => v = .tuple #[.int .u64 ((l.length + 1 : Nat) : Int), .int .i64 0] ∧ ∃ A' c', Mem w0 w' (soRow g A' (l ++ [(⟨l.length + 1, i.mark, i.c⟩ : It)]).length c' :: Asr.lst itE A' c' (l ++ [(⟨l.length + 1, i.mark, i.c⟩ : It)]) :: L) := by
 refine Fn.enter Tryz.func43 rfl Tryz.ntmps43 rfl (W.sub [(0, _), (1, _)] (.cons rfl (.cons rfl .nil)) (W.seq (W.region (WL.box rfl M rfl ?_))))
 intro g0_0 w M
 try simp only [Value.cells] at M
 try simp only [List.toList_toArray] at M
 refine WL.assign rfl rfl (WL.assign rfl rfl (WL.nil (WX.next (W.sub [(0, _), (3, _)] (.cons rfl (.cons rfl .nil)) (W.seq (W.seq (W.region (WL.move rfl rfl (WL.nilCheck rfl rfl (WL.fieldR (off := 1) Tryz.underlying126 rfl rfl Tryz.sizeOf25 rfl rfl rfl ?_))))))))))
 refine WL.loadR Tryz.isAgg25 rfl M Has.a rfl rfl (WL.len Tryz.underlying25 rfl rfl (WL.geq rfl rfl rfl (WL.nil (WX.next (W.sub [(0, _), (3, _), (11, _)] (.cons rfl (.cons rfl (.cons rfl .nil))) (W.ite rfl (fun c0 => ?_) (fun c0 => ?_)))))))
 ·exact absurd c0 (by omega)
 ·refine W.skip (WX.next (W.seq (W.region (WL.move rfl rfl (WL.call Tryz.call44 rfl (moLast_ok (n := l.length) w0 w _ (by omega) M Has.a) rfl ?_)))))
  rintro _ w ⟨rfl, M⟩
  refine WL.add rfl rfl (by first | exact wU64 (by omega) | exact mU64 _ | rfl) rfl ?_
  refine WL.fieldR (off := 0) Tryz.underlying101 rfl rfl Tryz.sizeOf47 rfl rfl rfl ?_
  refine WL.storeR Tryz.sizeOf47 rfl rfl rfl M Has.a (by repeat (first | exact SetAt.zero | apply SetAt.succ)) Upd.a ?_
  intro w M
  refine WL.nil (WX.next (W.sub [(0, _), (3, _)] (.cons rfl (.cons rfl .nil)) (W.seq (W.drawM ([Asr.row g0_0 101 [.int .u64 ((l.length + 1 : Nat) : Int), .bool i.mark, str i.c.key, str i.c.value, .bool i.c.gone], soRow g A l.length c]) (by kernel_rfl) (fun j => [4, 5, 6].contains j) M Sel.a ?_))))
  clear M; intro M
  apply DG.pure_ [0, 1, 2, 3] 7 rfl (by kernel_rfl) (by kernel_rfl)
  ·intro w
   refine WL.move rfl rfl (WL.move rfl rfl (WL.nilCheck rfl rfl (WL.fieldR (off := 1) Tryz.underlying126 rfl rfl Tryz.sizeOf25 rfl rfl rfl ?_)))
   exact Chain.end_ rfl
  apply DG.take [4, 5] 5 rfl (by kernel_rfl) (by kernel_rfl) (M.sel Sel.a)
  ·intro w M
   refine WL.loadR Tryz.isAgg25 rfl M Has.a rfl rfl (WL.loadW Tryz.isAgg101 Tryz.sizeOf101 rfl M Has.a rfl rfl ?_)
   exact Chain.end_ rfl
  refine DG.step 6 4 rfl (by kernel_rfl) ?_
  refine WL.buildL (E := itE) (l := [(⟨l.length + 1, i.mark, i.c⟩ : It)]) Tryz.elem101 M rfl rfl rfl rfl rfl rfl ?_
  intro g4_6 w M
  refine DG.go (G := fun j => [4, 5, 6].contains j) (i := 6) (f' := 4) (done := [0, 1, 2, 3, 4, 5]) (fun _ => M.sel Sel.a) ?_
  refine DG.step 7 3 rfl (by kernel_rfl) ?_
  refine WL.appendL (E := itE) Tryz.elem101 rfl rfl M Del.a (by first | with_reducible assumption | with_reducible exact RdL.mem (by with_reducible assumption) M | exact M.rdL Has.a | exact RdLH.at (by assumption) (M.sel Sel.a) | exact RdL.nil _ _ _) rfl rfl (by first | omega | (simp; done) | (simp; omega)) (by first | (simp only [maxLen]; omega) | (simp [maxLen]; done) | (simp [maxLen]; omega)) rfl ?_
  intro A4_7 cap4_7 w M
  refine DG.go (G := fun j => [4, 5, 6].contains j) (i := 7) (f' := 3) (done := [0, 1, 2, 3, 4, 5, 6]) (fun h => by cases h) ?_
  apply DG.pure_ [8, 9] 1 rfl (by kernel_rfl) (by kernel_rfl)
  ·intro w
   refine WL.nilCheck rfl rfl (WL.fieldR (off := 1) Tryz.underlying126 rfl rfl Tryz.sizeOf25 rfl rfl rfl ?_)
   exact Chain.end_ rfl
  refine DG.step 10 0 rfl (by kernel_rfl) ?_
  refine WL.storeR Tryz.sizeOf25 rfl rfl rfl M Has.a (by repeat (first | exact SetAt.zero | apply SetAt.succ)) Upd.a ?_
  intro w M
  refine DG.go (G := fun j => [4, 5, 6].contains j) (i := 10) (f' := 0) (done := [0, 1, 2, 3, 4, 5, 6, 7, 8, 9]) (fun h => by cases h) ?_
  refine DG.end_ (by kernel_rfl) ?_
  refine WX.next (W.sub [(3, _)] (.cons rfl .nil) (W.seq (W.region (WL.fieldR (off := 0) Tryz.underlying101 rfl rfl Tryz.sizeOf47 rfl rfl rfl ?_))))
  refine WL.loadR Tryz.isAgg47 rfl M Has.a rfl rfl (WL.assign rfl rfl (WL.assign rfl rfl (WL.nil (WX.next (W.sub [(4, _), (5, _)] (.cons rfl (.cons rfl .nil)) (W.ret (WX.ret2 rfl rfl rfl ?_)))))))
  exact ⟨rfl, A4_7, cap4_7, M.sel Sel.a⟩
theorem right_one {x : Cg} (h : x.right) : rightE [x] = 0 := by
 unfold rightE
 rw [if_pos ⟨by simp, fun c hc => by rw [List.mem_singleton] at hc; subst hc; exact h⟩]
set_option maxRecDepth 10000 in
theorem moDo_ok (hl : l.length ≤ 500) (x : Cg) (hx : x.right) (M : Mem w0 w (soRow g A l.length c :: Asr.lst itE A c l :: L)) : Fn Tryz.prog 18 [.pointer (some ⟨g, 0, none⟩), .agg #[str x.key, str x.value, .bool x.gone]] w fun v w' => v = .tuple #[.int .u64 ((l.length + 1 : Nat) : Int), .int .i64 0] ∧ ∃ A' c', Mem w0 w' (soRow g A' (l ++ [(⟨l.length + 1, false, x⟩ : It)]).length c' :: Asr.lst itE A' c' (l ++ [(⟨l.length + 1, false, x⟩ : It)]) :: L) := by
 refine Fn.enter Tryz.func18 rfl Tryz.ntmps18 rfl (W.sub [(0, _), (1, _)] (.cons rfl (.cons rfl .nil)) (W.seq (W.region (WL.box rfl M rfl ?_))))
 intro g0_0 w M
 try simp only [Value.cells] at M
 try simp only [List.toList_toArray] at M
 refine WL.assign rfl rfl (WL.assign rfl rfl (WL.nil (WX.next (W.sub [(0, _), (3, _)] (.cons rfl (.cons rfl .nil)) (W.seq (W.block (W.seq (W.region (WL.move rfl rfl (WL.eqNilF Tryz.underlying58 rfl rfl rfl (WL.assign rfl rfl (WL.nil (WX.next (W.sub [(0, _), (3, _), (6, _)] (.cons rfl (.cons rfl (.cons rfl .nil))) (W.condF rfl (W.seq (W.region (WL.loadW Tryz.isAgg63 Tryz.sizeOf63 rfl M Has.a rfl rfl (WL.buildL (E := cgE) (l := [x]) Tryz.elem63 M rfl rfl rfl rfl rfl rfl ?_)))))))))))))))))))
 intro g3_1 w M
 refine WL.call Tryz.call42 rfl (stRight_ok (l := [x]) (M.rdL Has.a)) rfl ?_
 rintro _ w ⟨rfl, m⟩
 replace M := M.call0 m; clear m
 rw [right_one hx]
 refine WL.neI rfl rfl rfl (WL.assign rfl rfl (WL.nil (WX.next (W.sub [(0, _), (3, _), (9, _)] (.cons rfl (.cons rfl (.cons rfl .nil))) (W.ite rfl (fun c1 => ?_) (fun c1 => ?_))))))
 ·exact absurd rfl c1
 ·refine W.skip (WX.blockNormal (WX.next (W.seq (W.region (WL.move rfl rfl (WL.loadW Tryz.isAgg63 Tryz.sizeOf63 rfl M Has.a rfl rfl (WL.build (places := #[(0, 1), (1, 1), (2, 3)]) (vs := [.agg #[str x.key, str x.value, .bool x.gone]]) (cells := #[.int .u64 0, .bool false, str x.key, str x.value, .bool x.gone]) Tryz.underlying101 Tryz.zeroValue101 (fun _ => by simp [Tryz.sizeOf47, Tryz.sizeOf4, Tryz.sizeOf63]) rfl (by rfl) rfl ?_)))))))
  refine WL.call Tryz.call43 rfl (moAdd_ok w0 w _ hl (⟨0, false, x⟩ : It) (M.sel Sel.a)) rfl ?_
  rintro _ w ⟨rfl, A9, c9, M⟩
  refine WL.extractL rfl rfl rfl (WL.extractL rfl rfl rfl (WL.assign rfl rfl (WL.assign rfl rfl (WL.nil (WX.next (W.sub [(4, _), (5, _)] (.cons rfl (.cons rfl .nil)) (W.ret (WX.ret2 rfl rfl rfl ?_))))))))
  exact ⟨rfl, A9, c9, M.sel Sel.a⟩
set_option maxRecDepth 10000 in
theorem moMark_ok (hl : l.length ≤ 500) (M : Mem w0 w (soRow g A l.length c :: Asr.lst itE A c l :: L)) : Fn Tryz.prog 20 [.pointer (some ⟨g, 0, none⟩)] w fun v w' => v = .tuple #[.int .u64 ((l.length + 1 : Nat) : Int), .int .i64 0] ∧ ∃ A' c', Mem w0 w' (soRow g A' (l ++ [(⟨l.length + 1, true, ⟨[], [], false⟩⟩ : It)]).length c' :: Asr.lst itE A' c' (l ++ [(⟨l.length + 1, true, ⟨[], [], false⟩⟩ : It)]) :: L) := by
 refine Fn.enter Tryz.func20 rfl Tryz.ntmps20 rfl (W.sub [(0, _)] (.cons rfl .nil) (W.seq (W.region (WL.assign rfl rfl (WL.assign rfl rfl (WL.nil (WX.next (W.sub [(0, _)] (.cons rfl .nil) (W.seq (W.seq (W.region (WL.move rfl rfl (WL.eqNilF Tryz.underlying58 rfl rfl rfl (WL.nil (WX.next (W.sub [(0, _), (5, _)] (.cons rfl (.cons rfl .nil)) (W.condF rfl (W.skip (WX.next (W.seq (W.region (WL.move rfl rfl (WL.buildP (places := #[(0, 1), (1, 1), (2, 3)]) Tryz.underlying101 Tryz.zeroValue101 (fun _ => by simp [Tryz.sizeOf47, Tryz.sizeOf4, Tryz.sizeOf63]) rfl (by repeat (first | exact Puts.nil | exact SetAt.zero | apply SetAt.succ | apply Puts.cons rfl rfl)) rfl ?_)))))))))))))))))))))))
 refine WL.call Tryz.call43 rfl (moAdd_ok w0 w _ hl (⟨0, true, ⟨[], [], false⟩⟩ : It) (M.sel Sel.a)) rfl ?_
 rintro _ w ⟨rfl, A9, c9, M⟩
 refine WL.extractL rfl rfl rfl (WL.extractL rfl rfl rfl (WL.assign rfl rfl (WL.assign rfl rfl (WL.nil (WX.next (W.sub [(2, _), (3, _)] (.cons rfl (.cons rfl .nil)) (W.ret (WX.ret2 rfl rfl rfl ?_))))))))
 exact ⟨rfl, A9, c9, M.sel Sel.a⟩
end
set_option maxRecDepth 10000 in
theorem itClone_ok {A : Option Addr} {cap : Nat} {l : List It} {w0 : World} (h : RdL w0 itE A cap l) (hl : l.length ≤ 1000000) :
 Fn Tryz.prog 45 [.slice A l.length cap] w0 fun v w' => ∃ A' c', v = .slice A' l.length c' ∧ Mem w0 w' [Asr.lst itE A' c' l] := by
 have M := Mem.refl w0
 obtain ⟨w, hw⟩ : ∃ w, w = w0 := ⟨w0, rfl⟩
 refine Fn.enter Tryz.func45 rfl Tryz.ntmps45 rfl (W.sub [(0, _)] (.cons rfl .nil) (W.seq (W.region (WL.assign rfl rfl (WL.nil (WX.next (W.sub [(0, _)] (.cons rfl .nil) (W.seq (W.seq (W.region (WL.move rfl rfl (WL.eqlSN Tryz.underlying25 rfl rfl rfl (WL.nil (WX.next (W.sub [(0, _), (4, _)] (.cons rfl (.cons rfl .nil)) (W.cond rfl (fun c0 => ?_) (fun c0 => ?_)))))))))))))))))
 ·(try simp only [Bool.not_eq_true'] at c0); (try simp only [Bool.not_eq_false'] at c0); (try simp only [decide_eq_true_eq] at c0); (try simp only [decide_eq_false_iff_not] at c0)
  refine W.seq (W.region (WL.assign rfl rfl (WL.nil (WX.next (W.sub [(2, _)] (.cons rfl .nil) (W.ret (WX.thenRet (WX.ret1 rfl rfl ?_))))))))
  have hl0 : l = [] := by
   apply List.eq_nil_of_length_eq_zero
   rcases Nat.eq_zero_or_pos l.length with h0 | h0
   ·exact h0
   ·have := h.isSome h0
    cases A with
    | none => cases this
    | some a => cases c0
  subst hl0
  exact ⟨none, 0, rfl, M.nilOwn _ _⟩
 ·(try simp only [Bool.not_eq_true'] at c0); (try simp only [Bool.not_eq_false'] at c0); (try simp only [decide_eq_true_eq] at c0); (try simp only [decide_eq_false_iff_not] at c0)
  refine W.skip (WX.next (W.seq (W.region (WL.buildL (E := itE) (l := []) Tryz.elem101 M rfl rfl rfl rfl rfl rfl ?_))))
  intro g3_0 w M
  refine WL.move rfl rfl ?_
  refine WL.appendLN (E := itE) Tryz.elem101 rfl rfl M Del.a (by first | with_reducible assumption | with_reducible exact RdL.mem (by with_reducible assumption) M | exact M.rdL Has.a | exact RdLH.at (by assumption) (M.sel Sel.a) | exact RdL.nil _ _ _) rfl rfl (by first | omega | (simp; done) | (simp; omega)) (by first | (simp only [maxLen]; omega) | (simp [maxLen]; done) | (simp [maxLen]; omega)) rfl ?_
  intro A3_2 cap3_2 w M
  refine WL.assign rfl rfl (WL.nil (WX.next (W.sub [(2, _)] (.cons rfl .nil) (W.ret (WX.ret1 rfl rfl ?_)))))
  exact ⟨A3_2, cap3_2, rfl, M.sel Sel.a⟩
section
variable (w0 w : World) (L : List Asr) {g c : Nat} {A : Option Addr} {l : List It}
set_option maxRecDepth 10000 in
theorem moFrom_ok (hl : l.length ≤ 1000) (M : Mem w0 w L) (h : Has (soRow g A l.length c) L) (h2 : Has (Asr.lst itE A c l) L) : Fn Tryz.prog 21 [.pointer (some ⟨g, 0, none⟩), .int .u64 1, .int .i64 1000] w fun v w' => ∃ A' c', v = .slice A' l.length c' ∧ Mem w0 w' (Asr.lst itE A' c' l :: L) := by
 refine Fn.enter Tryz.func21 rfl Tryz.ntmps21 rfl (W.sub [(0, _), (1, _), (2, _)] (.cons rfl (.cons rfl (.cons rfl .nil))) (W.seq (W.region (WL.assign rfl rfl (WL.nil (WX.next (W.sub [(0, _), (1, _), (2, _)] (.cons rfl (.cons rfl (.cons rfl .nil))) (W.seq (W.seq (W.region (WL.move rfl rfl (WL.eqNilF Tryz.underlying58 rfl rfl rfl (WL.move rfl rfl (WL.on rfl rfl (WL.move rfl rfl (WL.on rfl rfl (WL.lss rfl rfl rfl (WL.pickF rfl rfl rfl (WL.moveIf rfl rfl (fun c1 => ?_) (fun c1 => ?_))))))))))))))))))))
 ·refine WL.off rfl rfl rfl rfl (WL.off rfl rfl rfl rfl (WL.off rfl rfl rfl rfl (WL.off rfl rfl rfl rfl (WL.pickT rfl rfl rfl (WL.nil (WX.next (W.sub [(0, _), (1, _), (2, _), (20, _)] (.cons rfl (.cons rfl (.cons rfl (.cons rfl .nil)))) (W.condT rfl (W.seq (W.region (WL.assign rfl rfl (WL.nil (WX.next (W.sub [(6, _)] (.cons rfl .nil) (W.ret (WX.thenRet (WX.ret1 rfl rfl ?_)))))))))))))))))
  have hl0 : l = [] := List.eq_nil_of_length_eq_zero (by omega)
  subst hl0
  exact ⟨none, 0, rfl, M.nilOwn 101 5⟩
 ·refine WL.on rfl rfl (WL.move rfl rfl (WL.on rfl rfl (WL.move rfl rfl (WL.on rfl rfl (WL.call Tryz.call44 rfl (moLast_ok w0 w _ hl M h) rfl ?_)))))
  rintro _ w ⟨rfl, M⟩
  refine WL.on rfl rfl (WL.gtr rfl rfl rfl (WL.pickF rfl rfl rfl (WL.nil (WX.next (W.sub [(0, _), (1, _), (2, _), (20, _)] (.cons rfl (.cons rfl (.cons rfl (.cons rfl .nil)))) (W.ite rfl (fun c2 => ?_) (fun c2 => ?_)))))))
  ·refine W.seq (W.region (WL.assign rfl rfl (WL.nil (WX.next (W.sub [(6, _)] (.cons rfl .nil) (W.ret (WX.thenRet (WX.ret1 rfl rfl ?_))))))))
   have hl0 : l = [] := List.eq_nil_of_length_eq_zero (by omega)
   subst hl0
   exact ⟨none, 0, rfl, M.nilOwn 101 5⟩
  ·refine W.skip (WX.next (W.seq (W.drawM (L) (by kernel_rfl) (fun j => [4, 5, 6, 10].contains j) M Sel.a ?_)))
   clear M; intro M
   apply DG.pure_ [0, 1, 2, 3, 7, 8, 9] 7 rfl (by kernel_rfl) (by kernel_rfl)
   ·intro w
    refine WL.move rfl rfl (WL.move rfl rfl (WL.nilCheck rfl rfl (WL.fieldR (off := 0) Tryz.underlying126 rfl rfl Tryz.sizeOf47 rfl rfl rfl ?_)))
    refine WL.move rfl rfl (WL.nilCheck rfl rfl (WL.fieldR (off := 0) Tryz.underlying126 rfl rfl Tryz.sizeOf47 rfl rfl rfl ?_))
    exact Chain.end_ rfl
   apply DG.take [4, 5, 6, 10, 11, 12, 13] 0 rfl (by kernel_rfl) (by kernel_rfl) (M.sel Sel.a)
   ·intro w M
    refine WL.load Tryz.isAgg47 rfl (M.cellH h 0) rfl (WL.add rfl rfl (by first | exact wU64 (by omega) | exact mU64 _ | rfl) rfl ?_)
    refine WL.max rfl rfl rfl (WL.load Tryz.isAgg47 rfl (M.cellH h 0) rfl (WL.sub' rfl rfl (by first | exact wU64 (by omega) | exact mU64 _ | rfl) rfl ?_))
    refine WL.sub' rfl rfl (by first | exact wU64 (by omega) | exact mU64 _ | rfl) rfl ?_
    refine WL.assign rfl rfl ?_
    exact Chain.end_ rfl
   refine DG.end_ (by kernel_rfl) ?_
   refine WX.next (W.sub [(0, _), (2, _), (7, _)] (.cons rfl (.cons rfl (.cons rfl .nil))) (W.seq (W.region (WL.move rfl rfl (WL.nilCheck rfl rfl (WL.fieldR (off := 1) Tryz.underlying126 rfl rfl Tryz.sizeOf25 rfl rfl rfl ?_))))))
   refine WL.load Tryz.isAgg25 rfl (M.cellH h 1) rfl (WL.move rfl rfl ?_)
   have hlc := (M.rdL (E := itE) (l := l) h2).le
   refine WL.cutL (an := 0) (m' := l.length) Tryz.underlying25 Tryz.sizeOf101 rfl rfl (by omega) (by omega) rfl rfl rfl ?_
   refine WL.assign rfl rfl (WL.nil (WX.next (W.sub [(2, _), (8, _)] (.cons rfl (.cons rfl .nil)) (W.seq (W.region (WL.move rfl rfl (WL.move rfl rfl (WL.move rfl rfl (WL.len Tryz.underlying25 rfl rfl (WL.min rfl rfl rfl (WL.cutH (m' := l.length) Tryz.underlying25 Tryz.sizeOf101 rfl rfl (by omega) (by omega) (by omega) rfl ?_)))))))))))
   refine WL.call Tryz.call45 rfl (itClone_ok (l := l) (by have h9 := RdL.suf (M.rdL (E := itE) (l := l) h2) (Nat.zero_le _); rw [List.drop_zero] at h9; exact h9) (by omega)) rfl ?_
   rintro _ w ⟨A9, c9, rfl, m⟩
   replace M := M.call1 m; clear m
   refine WL.assign rfl rfl (WL.nil (WX.next (W.sub [(6, _)] (.cons rfl .nil) (W.ret (WX.ret1 rfl rfl ?_)))))
   exact ⟨A9, c9, rfl, M.sel Sel.a⟩
end
end Go.Proofs.YtlminileigfkcaaGreat
namespace Go.Proofs.YtlminileigfkcaaGreat
open Go Go.RowKit Go.MapKept
/-- How keys and values lie in a map. -/
structure MapE (κ α : Type) where
 kv : κ → Value
 f : α → Value
 d : TypeDesc
 key : ∀ a, IsKey d (kv a)
 inj : ∀ a b, kv a = kv b → a = b
section
variable {κ α : Type} [DecidableEq κ]
def mfind : List (κ × α) → κ → Nat → Option (Nat × α)
 | [], _, _ => none
 | (k', a) :: r, k, i => if k' = k then some (i, a) else mfind r k (i + 1)
def mget (ms : List (κ × α)) (k : κ) : Option α := (mfind ms k 0).map (·.2)
def mput (ms : List (κ × α)) (k : κ) (a : α) : List (κ × α) := match mfind ms k 0 with | some (j, _) => ms.set j (k, a) | none => ms ++ [(k, a)]
def mdel (ms : List (κ × α)) (k : κ) : List (κ × α) := match mfind ms k 0 with | some (j, _) => ms.eraseIdx j | none => ms
theorem mfind_shift : ∀ (ms : List (κ × α)) (k : κ) (i : Nat), mfind ms k i = (mfind ms k 0).map fun p => (i + p.1, p.2)
 | [], _, _ => rfl
 | (k', a) :: r, k, i => by
   unfold mfind
   split
   ·rfl
   ·rw [mfind_shift r k (i + 1), mfind_shift r k (0 + 1)]
    cases mfind r k 0 with
    | none => rfl
    | some p => simp; omega
theorem mget_cons (k' : κ) (a : α) (r : List (κ × α)) (k : κ) : mget ((k', a) :: r) k = if k' = k then some a else mget r k := by
 unfold mget
 rw [mfind]
 split
 ·rfl
 ·rw [mfind_shift]
  cases mfind r k 0 <;> rfl
theorem mput_nil (k : κ) (a : α) : mput [] k a = [(k, a)] := rfl
theorem mput_cons (k' : κ) (b : α) (r : List (κ × α)) (k : κ) (a : α) : mput ((k', b) :: r) k a = if k' = k then (k, a) :: r else (k', b) :: mput r k a := by
 unfold mput
 rw [mfind]
 by_cases h : k' = k
 ·simp [h]
 ·rw [if_neg h, if_neg h, mfind_shift]
  cases mfind r k 0 with
  | none => rfl
  | some p => simp [Nat.add_comm]
theorem mdel_nil (k : κ) : mdel ([] : List (κ × α)) k = [] := rfl
theorem mdel_cons (k' : κ) (b : α) (r : List (κ × α)) (k : κ) : mdel ((k', b) :: r) k = if k' = k then r else (k', b) :: mdel r k := by
 unfold mdel
 rw [mfind]
 by_cases h : k' = k
 ·simp [h]
 ·rw [if_neg h, if_neg h, mfind_shift]
  cases mfind r k 0 with
  | none => rfl
  | some p => simp [Nat.add_comm]
theorem mget_none {ms : List (κ × α)} {k : κ} (h : k ∉ ms.map (·.1)) : mget ms k = none := by
 induction ms with
 | nil => rfl
 | cons p r ih =>
   obtain ⟨k', b⟩ := p
   simp only [List.map_cons, List.mem_cons, not_or] at h
   rw [mget_cons, if_neg (fun e => h.1 e.symm), ih h.2]
theorem mget_mem {ms : List (κ × α)} {k : κ} {a : α} (h : mget ms k = some a) : (k, a) ∈ ms := by
 induction ms with
 | nil => cases h
 | cons p r ih =>
   obtain ⟨k', b⟩ := p
   rw [mget_cons] at h
   split at h
   ·rename_i e
    subst e
    cases h
    exact List.mem_cons_self ..
   ·exact List.mem_cons_of_mem _ (ih h)
theorem mdel_sub (ms : List (κ × α)) (k : κ) : (mdel ms k).Sublist ms := by
 induction ms with
 | nil => exact List.Sublist.refl _
 | cons p r ih =>
   obtain ⟨k', b⟩ := p
   rw [mdel_cons]
   split
   ·exact List.sublist_cons_self ..
   ·exact ih.cons_cons _
theorem mget_mdel {ms : List (κ × α)} (hn : (ms.map (·.1)).Nodup) (k k2 : κ) : mget (mdel ms k) k2 = if k = k2 then none else mget ms k2 := by
 induction ms with
 | nil => rw [mdel_nil]; split <;> rfl
 | cons p r ih =>
   obtain ⟨k', b⟩ := p
   simp only [List.map_cons, List.nodup_cons] at hn
   rw [mdel_cons]
   by_cases h : k' = k
   ·subst h
    rw [if_pos rfl, mget_cons]
    by_cases h2 : k' = k2
    ·subst h2; rw [if_pos rfl]; exact mget_none hn.1
    ·rw [if_neg h2, if_neg h2]
   ·rw [if_neg h, mget_cons, ih hn.2, mget_cons]
    by_cases h2 : k = k2
    ·subst h2; rw [if_neg h, if_pos rfl, if_pos rfl]
    ·rw [if_neg h2, if_neg h2]
end
section
variable {κ α β : Type} [DecidableEq κ]
theorem mdel_perm {ms : List (κ × α)} {k : κ} {a : α} (h : mget ms k = some a) : ms.Perm ((k, a) :: mdel ms k) := by
 induction ms with
 | nil => cases h
 | cons p r ih =>
   obtain ⟨k', b⟩ := p
   rw [mget_cons] at h
   rw [mdel_cons]
   by_cases e : k' = k
   ·subst e
    rw [if_pos rfl] at h ⊢
    cases h
    exact List.Perm.refl _
   ·rw [if_neg e] at h ⊢
    exact (List.Perm.cons _ (ih h)).trans (List.Perm.swap ..)
theorem mput_new {ms : List (κ × α)} {k : κ} {a : α} (h : mget ms k = none) : mput ms k a = ms ++ [(k, a)] := by
 unfold mget at h
 unfold mput
 cases hf : mfind ms k 0 with
 | none => rfl
 | some p => rw [hf] at h; cases h
theorem mget_notin {ms : List (κ × α)} {k : κ} (h : mget ms k = none) : k ∉ ms.map (·.1) := by
 induction ms with
 | nil => simp
 | cons p r ih =>
   obtain ⟨k', b⟩ := p
   rw [mget_cons] at h
   split at h
   ·cases h
   ·rename_i e
    simp only [List.map_cons, List.mem_cons, not_or]
    exact ⟨fun e2 => e e2.symm, ih h⟩
end
theorem map_eraseIdx' {β γ : Type} (f : β → γ) : ∀ (l : List β) (j : Nat), (l.eraseIdx j).map f = (l.map f).eraseIdx j
 | [], _ => rfl
 | _ :: _, 0 => rfl
 | x :: l, j + 1 => by simp [map_eraseIdx' f l j]
/-- Block g is a map that holds ms. -/
def Asr.mp {κ α : Type} (E : MapE κ α) (g : Nat) (ms : List (κ × α)) : Asr where
 foot := fun k => k = g
 holds := fun w => ∃ arr clock, w.heap[g]? = some (.map arr clock) ∧ arr.toList.map (fun e => (e.key, e.val)) = (ms.map fun p => (E.kv p.1, E.f p.2)) ∧ Stamped arr clock
 bound := fun w ⟨_, _, h, _⟩ k hk => by subst hk; exact (Array.getElem?_eq_some_iff.1 h).1
 stays := fun w w' h ⟨arr, clock, h1, h2⟩ => ⟨arr, clock, by rw [h g rfl]; exact h1, h2⟩
section
variable {κ α : Type} [DecidableEq κ] {E : MapE κ α}
theorem findNow_mfind : ∀ (l : List MapEntry) (ms : List (κ × α)) (k : κ) (i : Nat), l.map (fun e => (e.key, e.val)) = ms.map (fun p => (E.kv p.1, E.f p.2)) →
 Instr.findNow E.d (E.kv k) l i = some ((mfind ms k i).map fun p => (p.1, E.f p.2))
 | [], [], _, _, _ => rfl
 | [], _ :: _, _, _, h => by simp at h
 | _ :: _, [], _, _, h => by simp at h
 | e :: l, (k', a) :: ms, k, i, h => by
   simp only [List.map_cons, List.cons.injEq, Prod.mk.injEq] at h
   obtain ⟨⟨h1, h2⟩, h3⟩ := h
   obtain ⟨r, hr, hiff⟩ := sameNow_of_keys (E.key k) (h1 ▸ E.key k')
   have ih := findNow_mfind l ms k (i + 1) h3
   by_cases hk : k' = k
   ·subst hk
    have hrt : r = true := hiff.2 h1.symm
    subst hrt
    simp [Instr.findNow, hr, mfind, h2]
   ·have hrf : r = false := by
     cases r with
     | false => rfl
     | true => exact absurd (E.inj _ _ (h1.symm.trans (hiff.1 rfl).symm)) hk
    subst hrf
    simp [Instr.findNow, hr, mfind, hk, ih]
theorem mfind_lt : ∀ (ms : List (κ × α)) (k : κ) (i j : Nat) (a : α), mfind ms k i = some (j, a) → i ≤ j ∧ j < i + ms.length ∧ ms[j - i]? = some (k, a)
 | [], _, _, _, _, h => by cases h
 | (k', b) :: ms, k, i, j, a, h => by
   unfold mfind at h
   split at h
   ·rename_i e
    subst e
    cases h
    simp
   ·obtain ⟨h1, h2, h3⟩ := mfind_lt ms k (i + 1) j a h
    refine ⟨by omega, by simp; omega, ?_⟩
    rw [show j - i = (j - (i + 1)) + 1 by omega]
    simpa using h3
end
section
variable {P : Program} {n : Nat} {ρ : List (Nat × Value)} {w0 w : World} {rest : List Oper} {L L' : List Asr} {X : SqV P n} {Y : Sq P n}
variable {d : Nat} {ty : TypeId} {pos : String} {aft : Array Edge} {x y z : Operand} {t kt et : TypeId} {κ α : Type} [DecidableEq κ] {E : MapE κ α}
omit [DecidableEq κ] in
theorem Mem.mapSet {g : Nat} {ms ms' : List (κ × α)} {arr : Array MapEntry} {clock : Nat} (M : Mem w0 w (Asr.mp E g ms :: L)) (h : arr.toList.map (fun e => (e.key, e.val)) = ms'.map fun p => (E.kv p.1, E.f p.2)) (hst : Stamped arr clock) :
 Mem w0 { w with heap := w.heap.setIfInBounds g (.map arr clock) } (Asr.mp E g ms' :: L) := by
 obtain ⟨arr0, clock0, hg, _, _⟩ := M.head
 obtain ⟨h1, h2⟩ := heap_set (o' := .map arr clock) hg
 exact M.write ⟨rfl, rfl, rfl, by simp, fun k _ hk => h2 k (fun e => hk e)⟩ ⟨arr, clock, h1, h, hst⟩ (fun _ hf => .inl hf)
omit [DecidableEq κ] in
theorem WL.makeMap (E : MapE κ α) (M : Mem w0 w L) (hd : Nat.blt d n = true) (kk : ∀ g w', Mem w0 w' (Asr.mp E g [] :: L) → Y.S rest ((d, .map (some g)) :: ρ) w') :
 Y.S (⟨some d, .makeMap t none, ty, pos, aft, none⟩ :: rest) ρ w := by
 have M1 := M.alloc (.map #[] 0)
 have M2 : Mem w0 (w.alloc (.map #[] 0)) (Asr.mp E w.heap.size [] :: L) := M1.weak ⟨#[], 0, Go.heap_alloc_new w _, rfl, stamped_empty 0⟩ (fun _ h => h)
 exact WL.valW rfl rfl hd (fun a ha => by simp [execOp, run_makeMap]) (kk _ _ M2)
theorem WL.lookup {g : Nat} {ms : List (κ × α)} {k : κ} {zv : Value} (ht : P.underlying t = some (.map kt et)) (hkt : P.underlying kt = some E.d) (hz : ∀ w, (zeroValue et).run P w = .ok zv w) (hx : ev ρ x = some (.map (some g))) (hy : ev ρ y = some (E.kv k))
 (M : Mem w0 w L) (h : Has (Asr.mp E g ms) L) (hd : Nat.blt d n = true)
 (kk : X.S rest ((d, .tuple [(mget ms k).elim zv E.f, .bool (mget ms k).isSome].toArray) :: ρ) w) : X.S (⟨some d, .lookup t x y true, ty, pos, aft, none⟩ :: rest) ρ w := by
 obtain ⟨arr, clock, hg, hes, _⟩ := M.has h
 refine WL.val rfl rfl hd (fun a ha => ?_) kk
 have h1 := run_findKey (P := P) (w := w) hkt (findNow_mfind arr.toList ms k 0 hes)
 have h2 := run_checkKey (P := P) (w := w) hkt (E.key k) arr.isEmpty 9999
 simp only [execOp, Instr.lookup, ha.eval hx, ha.eval hy, Sem.run_bind, run_underlying ht, Result.andThen_ok, MapKept.run_getObj_map hg, Sem.run_pure, h1, h2]
 unfold mget
 cases mfind ms k 0 with
 | none => simp [hz]
 | some p => simp
theorem WL.mapUpdate {g : Nat} {ms : List (κ × α)} {k : κ} {a : α} (ht : P.underlying t = some (.map kt et)) (hkt : P.underlying kt = some E.d) (hx : ev ρ x = some (.map (some g))) (hy : ev ρ y = some (E.kv k)) (hz : ev ρ z = some (E.f a))
 (M : Mem w0 w L) (_ : Has (Asr.mp E g ms) L) (h : Upd (Asr.mp E g ms) (Asr.mp E g (mput ms k a)) L L') (kk : ∀ w', Mem w0 w' L' → Y.S rest ρ w') :
 Y.S (⟨none, .mapUpdate t x y z, ty, pos, aft, none⟩ :: rest) ρ w := by
 obtain ⟨K, p1, p2⟩ := h.perm
 have M1 := M.perm p1
 obtain ⟨arr, clock, hg, hes, hst⟩ := M1.head
 have h1 := run_findKey (P := P) (w := w) hkt (findNow_mfind arr.toList ms k 0 hes)
 have h2 := run_checkKey (P := P) (w := w) hkt (E.key k) false 9999
 have hlen : arr.size = ms.length := by simpa using congrArg List.length hes
 cases hf : mfind ms k 0 with
 | none =>
   rw [hf] at h1
   have e : (arr.push { key := E.kv k, val := E.f a, born := clock }).toList.map (fun e => (e.key, e.val)) = (mput ms k a).map fun p => (E.kv p.1, E.f p.2) := by
    unfold mput
    rw [hf]
    simp [hes]
   have hst2 := stamped_push hst (key := E.kv k) (val := E.f a) (fun x hx hc => by
    have hno : k ∉ ms.map (·.1) := mget_notin (by unfold mget; rw [hf]; rfl)
    have hm : (x.key, x.val) ∈ arr.toList.map (fun e => (e.key, e.val)) := List.mem_map.2 ⟨x, hx, rfl⟩
    rw [hes] at hm
    obtain ⟨p, hp, e1⟩ := List.mem_map.1 hm
    simp only [Prod.mk.injEq] at e1
    exact hno (List.mem_map.2 ⟨p, hp, E.inj _ _ (e1.1.trans hc)⟩))
   refine WL.unit rfl rfl (fun f hfr => ?_) (kk _ ((M1.mapSet (clock := clock + 1) e hst2).perm p2.symm))
   simp [execOp, Instr.mapUpdate, hfr.eval hx, hfr.eval hy, hfr.eval hz, run_underlying ht, MapKept.run_getObj_map hg, h1, h2, MapKept.run_setObj_map _ hg]
 | some p =>
   obtain ⟨j, b⟩ := p
   rw [hf] at h1
   obtain ⟨_, hj, hjk⟩ := mfind_lt ms k 0 j b hf
   simp only [Nat.zero_add, Nat.sub_zero] at hj hjk
   have hkey : arr[j].key = E.kv k := by
    have := congrArg (fun l => l[j]?) hes
    simp only [List.getElem?_map, hjk, Array.getElem?_toList, Array.getElem?_eq_getElem (show j < arr.size by omega), Option.map_some, Option.some.injEq, Prod.mk.injEq] at this
    exact this.1
   have e : (arr.modify j fun e => { e with key := E.kv k, val := E.f a }).toList.map (fun e => (e.key, e.val)) = (mput ms k a).map fun p => (E.kv p.1, E.f p.2) := by
    unfold mput
    rw [hf]
    apply List.ext_getElem?
    intro i
    have hi := congrArg (fun l => l[i]?) hes
    simp only [List.getElem?_map, Array.getElem?_toList] at hi
    simp only [List.getElem?_map, Array.getElem?_toList, Array.getElem?_modify, List.getElem?_set]
    by_cases hij : j = i
    ·subst hij
     simp [hj, Array.getElem?_eq_getElem (show j < arr.size by omega)]
    ·simp only [hij, if_false]
     exact hi
   have hst2 : Stamped (arr.modify j fun e => { e with key := E.kv k, val := E.f a }) clock := stamped_modify hst j _ (fun _ _ => rfl) (fun e he hje => by
    rw [Array.getElem?_eq_getElem (show j < arr.size by omega)] at hje
    cases hje
    exact hkey.symm)
   refine WL.unit rfl rfl (fun f hfr => ?_) (kk _ ((M1.mapSet (clock := clock) e hst2).perm p2.symm))
   have h3 : ((arr[j]?).map (·.key)).getD (E.kv k) = E.kv k := by rw [Array.getElem?_eq_getElem (show j < arr.size by omega)]; exact hkey
   simp [execOp, Instr.mapUpdate, hfr.eval hx, hfr.eval hy, hfr.eval hz, run_underlying ht, MapKept.run_getObj_map hg, h1, h2, MapKept.run_setObj_map _ hg, h3, run_keyThatStays (E.key k)]
theorem WL.valU {o : Oper} {v : Value} {w' : World} (hg : o.guard = none) (hdst : o.dst = none)
 (hrun : ∀ a, St n ρ a → (execOp a.eval o).run P w = .ok (.value v) w') (k : Y.S rest ρ w') : Y.S (o :: rest) ρ w :=
 Y.step_ hg fun K hK a ha => by
  unfold Oper.wp
  rw [hrun a ha, Oper.upon_value, hdst]
  exact hK _ _ _ ha k
theorem WL.mapDelete {g : Nat} {ms : List (κ × α)} {k : κ} {t2 : TypeId} (ht : P.underlying t = some (.map kt et)) (hkt : P.underlying kt = some E.d) (hx : ev ρ x = some (.map (some g))) (hy : ev ρ y = some (E.kv k))
 (M : Mem w0 w L) (_ : Has (Asr.mp E g ms) L) (h : Upd (Asr.mp E g ms) (Asr.mp E g (mdel ms k)) L L') (kk : ∀ w', Mem w0 w' L' → Y.S rest ρ w') :
 Y.S (⟨none, .call ⟨.builtin .delete, #[x, y], #[t, t2]⟩, ty, pos, aft, none⟩ :: rest) ρ w := by
 obtain ⟨K, p1, p2⟩ := h.perm
 have M1 := M.perm p1
 obtain ⟨arr, clock, hg, hes, hst⟩ := M1.head
 have h1 := run_findKey (P := P) (w := w) hkt (findNow_mfind arr.toList ms k 0 hes)
 have h2 := run_checkKey (P := P) (w := w) hkt (E.key k) arr.isEmpty 9999
 have hlen : arr.size = ms.length := by simpa using congrArg List.length hes
 cases hf : mfind ms k 0 with
 | none =>
   rw [hf] at h1
   have e : arr.toList.map (fun e => (e.key, e.val)) = (mdel ms k).map fun p => (E.kv p.1, E.f p.2) := by
    unfold mdel
    rw [hf]
    exact hes
   refine WL.valU (v := .tuple #[]) rfl rfl (fun f hfr => ?_) (kk _ ((M1.mapSet (clock := clock) e hst).perm p2.symm))
   simp [execOp, resolve, invoke, builtin, Builtin.delete_, hfr.eval hx, hfr.eval hy, run_underlying ht, MapKept.run_getObj_map hg, h1, h2, MapKept.run_setObj_map _ hg]
 | some p =>
   obtain ⟨j, b⟩ := p
   rw [hf] at h1
   obtain ⟨_, hj, hjk⟩ := mfind_lt ms k 0 j b hf
   simp only [Nat.zero_add, Nat.sub_zero] at hj hjk
   have e : (arr.eraseIdxIfInBounds j).toList.map (fun e => (e.key, e.val)) = (mdel ms k).map fun p => (E.kv p.1, E.f p.2) := by
    unfold mdel
    rw [hf]
    have e1 : (arr.eraseIdxIfInBounds j).toList = arr.toList.eraseIdx j := by simp [Array.eraseIdxIfInBounds, show j < arr.size by omega]
    rw [e1, map_eraseIdx', map_eraseIdx', hes]
   refine WL.valU (v := .tuple #[]) rfl rfl (fun f hfr => ?_) (kk _ ((M1.mapSet (clock := clock) e (stamped_erase hst j)).perm p2.symm))
   simp [execOp, resolve, invoke, builtin, Builtin.delete_, hfr.eval hx, hfr.eval hy, run_underlying ht, MapKept.run_getObj_map hg, h1, h2, MapKept.run_setObj_map _ hg]
end
section
variable {P : Program} {n : Nat} {ρ : List (Nat × Value)} {w0 w : World} {rest : List Oper} {L L' : List Asr} {X : SqV P n} {Y : Sq P n}
variable {d : Nat} {ty : TypeId} {pos : String} {aft : Array Edge} {x y z : Operand} {t kt et : TypeId} {κ α : Type} [DecidableEq κ] {E : MapE κ α}
/-- A value alone. -/
theorem WL.lookupV {g : Nat} {ms : List (κ × α)} {k : κ} {zv : Value} (ht : P.underlying t = some (.map kt et)) (hkt : P.underlying kt = some E.d) (hz : ∀ w, (zeroValue et).run P w = .ok zv w) (hx : ev ρ x = some (.map (some g))) (hy : ev ρ y = some (E.kv k))
 (M : Mem w0 w L) (h : Has (Asr.mp E g ms) L) (hd : Nat.blt d n = true)
 (kk : X.S rest ((d, (mget ms k).elim zv E.f) :: ρ) w) : X.S (⟨some d, .lookup t x y false, ty, pos, aft, none⟩ :: rest) ρ w := by
 obtain ⟨arr, clock, hg, hes, _⟩ := M.has h
 refine WL.val rfl rfl hd (fun a ha => ?_) kk
 have h1 := run_findKey (P := P) (w := w) hkt (findNow_mfind arr.toList ms k 0 hes)
 have h2 := run_checkKey (P := P) (w := w) hkt (E.key k) arr.isEmpty 9999
 simp only [execOp, Instr.lookup, ha.eval hx, ha.eval hy, Sem.run_bind, run_underlying ht, Result.andThen_ok, MapKept.run_getObj_map hg, Sem.run_pure, h1, h2]
 unfold mget
 cases mfind ms k 0 with
 | none => simp [hz]
 | some p => simp
omit [DecidableEq κ] in
theorem Mem.mapNodup {g : Nat} {ms : List (κ × α)} (M : Mem w0 w L) (h : Has (Asr.mp E g ms) L) : (ms.map (·.1)).Nodup := by
 obtain ⟨arr, clock, hg, hes, hst⟩ := M.has h
 have h1 := hst.2.2
 have e : arr.toList.map (·.key) = (ms.map (·.1)).map E.kv := by
  have := congrArg (List.map Prod.fst) hes
  simpa [List.map_map, Function.comp_def] using this
 rw [e] at h1
 rw [List.nodup_iff_pairwise_ne, List.pairwise_map] at h1
 rw [List.nodup_iff_pairwise_ne]
 exact h1.imp fun h2 h3 => h2 (by rw [h3])
end
/-- Keys that are numbers. -/
def u64M {α : Type} (f : α → Value) : MapE Nat α := ⟨fun k => .int .u64 (k : Int), f, .int .u64, fun _ => rfl, fun a b h => by injection h with _ h2; omega⟩
end Go.Proofs.YtlminileigfkcaaGreat
namespace Go.Proofs.YtlminileigfkcaaGreat
open Go Go.RowKit Go.MapKept Go.ChangeMaps
theorem nodup_len : ∀ (n : Nat) (l : List Nat), l.Nodup → (∀ i ∈ l, i < n) → l.length ≤ n
 | 0, [], _, _ => Nat.le_refl _
 | 0, i :: _, _, h => absurd (h i (List.mem_cons_self ..)) (Nat.not_lt_zero _)
 | n + 1, l, hn, h => by
   by_cases hm : n ∈ l
   ·have h1 := nodup_len n (l.erase n) (hn.erase n) (fun i hi => by
     have h2 := h i (List.mem_of_mem_erase hi)
     have h3 : i ≠ n := fun e => by
      subst e
      exact (List.Nodup.mem_erase_iff hn).1 hi |>.1 rfl
     omega)
    rw [List.length_erase_of_mem hm] at h1
    have := List.length_pos_of_mem hm
    omega
   ·have := nodup_len n l hn (fun i hi => by
     have h2 := h i hi
     have h3 : i ≠ n := fun e => hm (e ▸ hi)
     omega)
    omega
theorem nodup_perm {α : Type} [DecidableEq α] : ∀ {l m : List α}, l.Nodup → m.Nodup → (∀ x, x ∈ l ↔ x ∈ m) → l.Perm m
 | [], m, _, _, h => by
   cases m with
   | nil => exact List.Perm.refl _
   | cons y m => exact absurd ((h y).2 (List.mem_cons_self ..)) (by simp)
 | x :: l, m, hl, hm, h => by
   have hx : x ∈ m := (h x).1 (List.mem_cons_self ..)
   have hl2 := List.nodup_cons.1 hl
   refine (List.Perm.cons x ?_).trans (List.perm_cons_erase hx).symm
   refine nodup_perm hl2.2 (hm.erase x) (fun y => ?_)
   rw [List.Nodup.mem_erase_iff hm, ← h y, List.mem_cons]
   constructor
   ·intro hy
    exact ⟨fun e => hl2.1 (e ▸ hy), .inr hy⟩
   ·rintro ⟨h1, h2 | h2⟩
    ·exact absurd h2 h1
    ·exact h2
/-- Map g, and block gi that goes over it: idx are the places that have come. -/
def Asr.mpW {κ α : Type} (E : MapE κ α) (g gi : Nat) (ms : List (κ × α)) (idx : List Nat) : Asr where
 foot := fun k => k = g ∨ k = gi
 holds := fun w => g ≠ gi ∧ ∃ arr clock seen, w.heap[g]? = some (.map arr clock) ∧ arr.toList.map (fun e => (e.key, e.val)) = (ms.map fun p => (E.kv p.1, E.f p.2)) ∧ Stamped arr clock ∧
  w.heap[gi]? = some (.mapIter (some g) clock seen clock) ∧ idx.Nodup ∧ (∀ i ∈ idx, i < arr.size) ∧ seen.toList.map some = idx.map (fun i => arr[i]?.map (·.born))
 bound := fun w ⟨_, _, _, _, h, _, _, h2, _⟩ k hk => by
  rcases hk with rfl | rfl
  ·exact (Array.getElem?_eq_some_iff.1 h).1
  ·exact (Array.getElem?_eq_some_iff.1 h2).1
 stays := fun w w' h ⟨h0, arr, clock, seen, h1, h2, h3, h4, h5⟩ => ⟨h0, arr, clock, seen, by rw [h g (.inl rfl)]; exact h1, h2, h3, by rw [h gi (.inr rfl)]; exact h4, h5⟩
section
variable {P : Program} {n : Nat} {ρ : List (Nat × Value)} {w0 w : World} {rest : List Oper} {L L' : List Asr} {X : SqV P n} {Y : Sq P n}
variable {d : Nat} {ty : TypeId} {pos : String} {aft : Array Edge} {x y z : Operand} {t kt et : TypeId} {κ α : Type} {E : MapE κ α}
theorem WL.range {g : Nat} {ms : List (κ × α)} (ht : P.underlying t = some (.map kt et)) (hx : ev ρ x = some (.map (some g))) (M : Mem w0 w L) (h : Del (Asr.mp E g ms) L L') (hd : Nat.blt d n = true)
 (kk : ∀ gi w', Mem w0 w' (Asr.mpW E g gi ms [] :: L') → Y.S rest ((d, .pointer (some ⟨gi, 0, none⟩)) :: ρ) w') :
 Y.S (⟨some d, .range t x, ty, pos, aft, none⟩ :: rest) ρ w := by
 have M1 := M.del h
 obtain ⟨arr, clock, hg, hes, hst⟩ := M1.head
 have M2 := M1.alloc (.mapIter (some g) clock #[] clock)
 have hne : g ≠ w.heap.size := by
  have := (Array.getElem?_eq_some_iff.1 hg).1
  omega
 have M3 : Mem w0 (w.alloc (.mapIter (some g) clock #[] clock)) (Asr.mpW E g w.heap.size ms [] :: L') := by
  obtain ⟨b1, ⟨s1, s2, s3, s4, s5⟩, b3⟩ := M2
  refine ⟨b1, ⟨⟨hne, arr, clock, #[], ?_, hes, hst, s1, List.nodup_nil, by simp, rfl⟩, fun B hB k hk hb => ?_, s5⟩, fun B hB k hk => ?_⟩
  ·obtain ⟨arr2, clock2, hg2, _⟩ := s3
   have e := Below.heap_alloc w (.mapIter (some g) clock #[] clock) g (Array.getElem?_eq_some_iff.1 hg).1
   rw [e]
   exact hg
  ·rcases hk with rfl | rfl
   ·exact s4 B hB k rfl hb
   ·exact s2 B (List.mem_cons_of_mem _ hB) _ rfl hb
  ·rcases List.mem_cons.1 hB with rfl | hB
   ·rcases hk with rfl | rfl
    ·exact b3 _ (List.mem_cons_of_mem _ (List.mem_cons_self ..)) _ rfl
    ·exact b3 _ (List.mem_cons_self ..) _ rfl
   ·exact b3 B (List.mem_cons_of_mem _ (List.mem_cons_of_mem _ hB)) k hk
 refine WL.valW (v := .pointer (some ⟨w.heap.size, 0, none⟩)) (w' := w.alloc (.mapIter (some g) clock #[] clock)) rfl rfl hd (fun a ha => ?_) (kk _ _ M3)
 simp [execOp, Instr.range, ha.eval hx, run_underlying ht, MapKept.run_getObj_map hg]
/-- What has come is all. -/
theorem idx_all {ms : List (κ × α)} {idx : List Nat} (hn : idx.Nodup) (h1 : ∀ i ∈ idx, i < ms.length) (h2 : ∀ i, i < ms.length → i ∈ idx) : idx.Perm (List.range ms.length) :=
 nodup_perm hn List.nodup_range (fun i => ⟨fun h => List.mem_range.2 (h1 i h), fun h => h2 i (List.mem_range.1 h)⟩)
theorem WL.next {g gi : Nat} {ms : List (κ × α)} {idx : List Nat} (hx : ev ρ x = some (.pointer (some ⟨gi, 0, none⟩))) (M : Mem w0 w L) (h : Del (Asr.mpW E g gi ms idx) L L') (hd : Nat.blt d n = true)
 (kk : ∀ (b : Bool) (r : List Value) (idx' : List Nat) (w' : World), (b = false → idx' = idx ∧ idx.Perm (List.range ms.length)) → (b = true → ∃ j, j < ms.length ∧ j ∉ idx ∧ idx' = idx ++ [j]) → idx'.length ≤ ms.length → Mem w0 w' (Asr.mpW E g gi ms idx' :: L') → Y.S rest ((d, .tuple (.bool b :: r).toArray) :: ρ) w') :
 Y.S (⟨some d, .next x false, ty, pos, aft, none⟩ :: rest) ρ w := by
 have M1 := M.del h
 obtain ⟨hne, arr, clock, seen, hg, hes, hst, hi, hnd, hlt, hseen⟩ := M1.head
 have hsz : arr.size = ms.length := by simpa using congrArg List.length hes
 have hlen : idx.length ≤ ms.length := nodup_len _ _ hnd (fun i hi => by have := hlt i hi; omega)
 have hborn : ∀ i j, (hi : i < arr.size) → (hj : j < arr.size) → arr[i].born = arr[j].born → i = j := by
  intro i j hi hj e
  have h2 := hst.2.1
  have e2 : (arr.toList.map (·.born))[i]'(by simpa using hi) = (arr.toList.map (·.born))[j]'(by simpa using hj) := by simpa using e
  exact (List.getElem_inj h2).1 e2
 have hin : ∀ i, (hi : i < arr.size) → (arr[i].born ∈ seen.toList ↔ i ∈ idx) := by
  intro i hi
  have e1 : arr[i].born ∈ seen.toList ↔ some arr[i].born ∈ seen.toList.map some := by simp
  rw [e1, hseen, List.mem_map]
  constructor
  ·rintro ⟨j, hj, e⟩
   have hjl := hlt j hj
   rw [Array.getElem?_eq_getElem hjl] at e
   simp only [Option.map_some, Option.some.injEq] at e
   rw [hborn i j hi hjl e.symm]
   exact hj
  ·intro hm
   exact ⟨i, hm, by rw [Array.getElem?_eq_getElem hi]; rfl⟩
 rcases run_next_at (P := P) w ty gi g clock clock seen arr clock hi hg hst.1 (Nat.le_refl _) with ⟨h0, hr⟩ | ⟨e, he, w1, hw1, hr⟩
 ·refine WL.valW (v := .tuple #[.bool false]) (w' := w) rfl rfl hd (fun a ha => by simp [execOp, ha.eval hx, hr]) (kk false [] idx w (fun _ => ⟨rfl, ?_⟩) (fun h => by cases h) hlen M1)
  refine idx_all hnd (fun i hi => by have := hlt i hi; omega) (fun i hi => ?_)
  have hi' : i < arr.size := by omega
  rw [← hin i hi']
  apply Classical.byContradiction
  intro hc
  have hm : arr[i] ∈ (leftOf arr seen).toList := by
   unfold leftOf
   simp
   exact fun h => hc (by simpa using h)
  rw [Array.eq_empty_of_size_eq_zero h0] at hm
  cases hm
 ·have he2 : e ∈ arr.toList ∧ e.born ∉ seen.toList := by
   unfold leftOf at he
   simp at he
   exact ⟨by simpa using he.1, by simpa using he.2⟩
  obtain ⟨j, hj, ej⟩ := List.getElem_of_mem he2.1
  have hj' : j < arr.size := by simpa using hj
  have ej' : arr[j] = e := by simpa using ej
  have hjn : j ∉ idx := by
   rw [← hin j hj', ej']
   exact he2.2
  have hg1 : w1.heap[g]? = some (.map arr clock) := by rcases hw1 with rfl | rfl <;> exact hg
  have hi1 : w1.heap[gi]? = some (.mapIter (some g) clock seen clock) := by rcases hw1 with rfl | rfl <;> exact hi
  have M2 : Mem w0 w1 (Asr.mpW E g gi ms idx :: L') := by rcases hw1 with rfl | rfl; exact M1; exact M1.drew
  obtain ⟨q1, q2⟩ := heap_set (o' := .mapIter (some g) clock (seen.push e.born) clock) hi1
  have M3 : Mem w0 (setBlock w1 gi (.mapIter (some g) clock (seen.push e.born) clock)) (Asr.mpW E g gi ms (idx ++ [j]) :: L') := by
   refine M2.write ⟨rfl, rfl, rfl, by simp [setBlock], fun k _ hk => q2 k (fun e => hk (.inr e))⟩ ⟨hne, arr, clock, seen.push e.born, ?_, hes, hst, q1, ?_, ?_, ?_⟩ (fun _ hf => .inl hf)
   ·exact (q2 g hne).trans hg1
   ·rw [List.nodup_append]
    exact ⟨hnd, by simp, fun a ha b hb => by rw [List.mem_singleton] at hb; subst hb; exact fun e => hjn (e ▸ ha)⟩
   ·intro i hi
    rcases List.mem_append.1 hi with hi | hi
    ·exact hlt i hi
    ·rw [List.mem_singleton] at hi
     subst hi
     exact hj'
   ·rw [Array.toList_push, List.map_append, hseen, List.map_append]
    congr 1
    simp [Array.getElem?_eq_getElem hj', ej']
  refine WL.valW (v := .tuple #[.bool true, e.key, e.val]) rfl rfl hd (fun a ha => by simp [execOp, ha.eval hx, hr]) (kk true [e.key, e.val] (idx ++ [j]) _ (fun h => by cases h) (fun _ => ⟨j, by omega, hjn, rfl⟩) ?_ M3)
  refine nodup_len _ _ ?_ (fun i hi => ?_)
  ·rw [List.nodup_append]
   exact ⟨hnd, by simp, fun a ha b hb => by rw [List.mem_singleton] at hb; subst hb; exact fun e => hjn (e ▸ ha)⟩
  ·rcases List.mem_append.1 hi with hi | hi
   ·have := hlt i hi; omega
   ·rw [List.mem_singleton] at hi; omega
theorem WL.entry {g gi j : Nat} {ms : List (κ × α)} {idx : List Nat} {p : κ × α} (hp : ms[j]? = some p) (hx : ev ρ x = some (.pointer (some ⟨gi, 0, none⟩))) (M : Mem w0 w L) (h : Has (Asr.mpW E g gi ms (idx ++ [j])) L) (hd : Nat.blt d n = true)
 (kk : X.S rest ((d, .tuple [E.kv p.1, E.f p.2].toArray) :: ρ) w) : X.S (⟨some d, .entry x, ty, pos, aft, none⟩ :: rest) ρ w := by
 obtain ⟨hne, arr, clock, seen, hg, hes, hst, hi, hnd, hlt, hseen⟩ := M.has h
 have hj : j < arr.size := hlt j (by simp)
 have hs : ∃ s0 : Array Nat, seen = s0.push arr[j].born := by
  rw [List.map_append] at hseen
  obtain ⟨s0, b, e⟩ : ∃ (s0 : List Nat) (b : Nat), seen.toList = s0 ++ [b] := by
   rcases List.eq_nil_or_concat seen.toList with e | ⟨s0, b, e⟩
   ·rw [e] at hseen
    simp at hseen
   ·exact ⟨s0, b, by rw [e]; simp⟩
  rw [e, List.map_append] at hseen
  have h2 := (List.append_inj' hseen rfl).2
  simp only [List.map_cons, List.map_nil, List.cons.injEq, and_true, Array.getElem?_eq_getElem hj, Option.map_some, Option.some.injEq] at h2
  refine ⟨s0.toArray, ?_⟩
  apply Array.ext'
  rw [e, Array.toList_push, h2]
 obtain ⟨s0, rfl⟩ := hs
 have hr := run_entry_at (P := P) w gi g clock s0 arr clock arr[j] hi hg (by simp) hst.2.1
 have hkv : (arr[j].key, arr[j].val) = (E.kv p.1, E.f p.2) := by
  have := congrArg (fun l => l[j]?) hes
  simp only [List.getElem?_map, hp, Array.getElem?_toList, Array.getElem?_eq_getElem hj, Option.map_some, Option.some.injEq] at this
  exact this
 simp only [Prod.mk.injEq] at hkv
 rw [hkv.1, hkv.2] at hr
 exact WL.val rfl rfl hd (fun a ha => by simp [execOp, ha.eval hx, hr]) kk
/-- The map alone again. -/
theorem Mem.mapOut {g gi : Nat} {ms : List (κ × α)} {idx : List Nat} (M : Mem w0 w (Asr.mpW E g gi ms idx :: L)) : Mem w0 w (Asr.mp E g ms :: L) := by
 refine M.weak ?_ (fun k hk => .inl hk)
 obtain ⟨_, arr, clock, _, h1, h2, h3, _⟩ := M.head
 exact ⟨arr, clock, h1, h2, h3⟩
end
end Go.Proofs.YtlminileigfkcaaGreat
namespace Go.Proofs.YtlminileigfkcaaGreat
open Go Go.RowKit Go.MapKept
/-- Everything may be called; r: the round one is in. -/
def fw (r : Option Nat) : Fence := { Fence.wide with round := r }
theorem rowsIn_fw {r : Option Nat} {n : Nat} {P : Program} {row : String} {args : Array Value} {w : World} {R : Value → World → Prop} (h : Rows P row args w R) : RowsIn (fw r) n P row args w R :=
 fun c cs _ => let ⟨v, w', hr, hs⟩ := h c cs; ⟨v, w', hr, stepsIn_wide.2 hs⟩
theorem callsIn_fw {r : Option Nat} {n : Nat} {P : Program} {f : FuncId} {args : Array Value} {w : World} {R : Ending → World → Prop} (h : Calls P f args w R) : CallsIn (fw r) n P f args w R :=
 (callsIn_wide (n := n)).2 h
theorem upon_In {r : Option Nat} {P : Program} {o : Oper} {a : Act} {K : Act → World → Prop} {Q : Exit → Act → World → Prop} (x : Result Next) (h : o.upon P a K Q x) : o.uponIn (fw r) 0 P a K Q x := by
 cases x with
 | ok v w =>
   cases v with
   | value v => exact h
   | skip => exact h
   | defer d => exact h
   | enter f args => exact ⟨fun h => (by cases h), callsIn_fw h⟩
   | row row args => exact ⟨fun h => (by cases h), rowsIn_fw h⟩
   | _ => exact h.elim
 | halt k w =>
   cases k with
   | panic v => exact h
   | _ => exact h.elim
theorem wp_In {r : Option Nat} {P : Program} {o : Oper} {a : Act} {w : World} {K : Act → World → Prop} {Q : Exit → Act → World → Prop} (h : o.wp P a w K Q) (hK : ∀ a' w', K a' w' → a'.defers = []) : o.wpIn (fw r) 0 P a w K Q := by
 refine ⟨fun _ _ => trivial, ?_⟩
 by_cases hd : ∃ c, o.op = .defer c
 ·obtain ⟨c, hc⟩ := hd
  cases r with
  | none => exact upon_In _ h
  | some l =>
    have e1 : execOp a.eval o = (do pure (.defer (← resolve a.eval c o.type))) := by rw [execOp, hc]
    have e2 : o.semAt (fw (some l)).round a.eval = (do Instr.deferInRound l (← resolve a.eval c o.type); pure .skip) := by
     show Oper.semAt (some l) a.eval o = _
     unfold Oper.semAt
     rw [hc]
    unfold Oper.wp at h
    rw [e1] at h
    rw [e2]
    rw [Sem.run_bind] at h ⊢
    cases hr : (resolve a.eval c o.type).run P w with
    | ok d w' =>
      rw [hr] at h
      have h2 : K ({ a with defers := d :: a.defers }.put o.dst undef) w' := h
      have h3 := hK _ _ h2
      exfalso
      revert h3
      unfold Act.put
      cases o.dst <;> simp
    | halt k w' =>
      rw [hr] at h
      exact upon_In _ h
 ·rw [Oper.semAt_eq _ _ _ (fun c hc => hd ⟨c, hc⟩)]
  exact upon_In _ h
/-- A region within a round, or where yield is called. -/
def wlI (r : Option Nat) (P : Program) (ops : Array Oper) (Q : Exit → Act → World → Prop) (n : Nat) : Sq P n where
 ops := ops
 S := fun l ρ w => ∀ a, St n ρ a → wpListIn (fw r) 0 P ops Q l a w
 Q := Q
 val_ := fun {o rest ρ w d v} hg hdst hd hrun k a ha => wpListIn_plain hg fun K hK => by
  have h1 : o.wp P a w (fun a' w' => ∃ ρ', St n ρ' a' ∧ a' = a.put o.dst v ∧ w' = w) Q := by
   unfold Oper.wp
   rw [hrun a ha, Oper.upon_value]
   exact ⟨_, by rw [hdst]; exact ha.put hd v, rfl, rfl⟩
  have h2 := wp_In (r := r) h1 (fun a' w' ⟨_, h, _, _⟩ => h.defers)
  refine ⟨h2.1, ?_⟩
  have h3 := h2.2
  have e : (o.semAt (fw r).round a.eval).run P w = .ok (.value v) w := by
   by_cases hc : ∃ c, o.op = .defer c
   ·obtain ⟨c, hc⟩ := hc
    have e1 : execOp a.eval o = (do pure (.defer (← resolve a.eval c o.type))) := by rw [execOp, hc]
    have hr := hrun a ha
    rw [e1, Sem.run_bind] at hr
    exfalso
    cases hq : (resolve a.eval c o.type).run P w with
    | ok d w' => rw [hq] at hr; simp at hr
    | halt k w' => rw [hq] at hr; cases hr
   ·rw [Oper.semAt_eq _ _ _ (fun c h => hc ⟨c, h⟩)]
    exact hrun a ha
  rw [e, Oper.uponIn_value, hdst]
  exact hK _ _ (k _ (ha.put hd _))
 on_ := fun {d op ty pos aft j b rest ρ w t} hj ht k a ha => by
  have h := k a ha
  unfold wpListIn at h ⊢
  have h1 : Region.wanted ⟨d, op, ty, pos, aft, some (j, b)⟩ (yielded ops a.tmps) = true := by simp [Region.wanted, yielded_of ha hj ht]
  have h2 : Region.wanted ⟨d, op, ty, pos, aft, none⟩ (yielded ops a.tmps) = true := by simp [Region.wanted]
  rw [if_pos h1]
  rw [if_pos h2] at h
  exact h
 off_ := fun hw hdst hd k a ha => by
  unfold wpListIn
  rw [if_neg (by rw [hw a ha]; simp), hdst]
  exact ⟨fun _ _ => trivial, k _ (ha.put hd undef)⟩
 step_ := fun {o rest ρ w} hg h a ha => wpListIn_plain hg fun K hK => by
  have h1 := wp_In (r := r) (h (fun a' w' => ∃ ρ', St n ρ' a' ∧ ∀ a, St n ρ' a → wpListIn (fw r) 0 P ops Q rest a w') (fun a' ρ' w' ha' hr => ⟨ρ', ha', hr⟩) a ha) (fun a' w' ⟨_, h, _⟩ => h.defers)
  refine ⟨h1.1, ?_⟩
  have mono : ∀ x, o.uponIn (fw r) 0 P a (fun a' w' => ∃ ρ', St n ρ' a' ∧ ∀ a, St n ρ' a → wpListIn (fw r) 0 P ops Q rest a w') Q x → o.uponIn (fw r) 0 P a K Q x := by
   intro x hx
   have hkk : ∀ a' w', (∃ ρ', St n ρ' a' ∧ ∀ a, St n ρ' a → wpListIn (fw r) 0 P ops Q rest a w') → K a' w' := fun a' w' ⟨ρ', h1, h2⟩ => hK _ _ (h2 a' h1)
   cases x with
   | ok v w =>
     cases v with
     | value v => exact hkk _ _ hx
     | skip => exact hkk _ _ hx
     | defer d => exact hkk _ _ hx
     | enter f args => exact ⟨hx.1, hx.2.mono fun e w' he => by cases e with
        | returned v => exact hkk _ _ he
        | panicked c => exact he
        | outgrown => exact he⟩
     | row row args => exact ⟨hx.1, hx.2.mono fun v w' he => hkk _ _ he⟩
     | round l f t sg bd => exact ⟨hx.1, hx.2.mono fun e w' he => by cases e with
        | returned v => exact hkk _ _ he
        | panicked c => exact he
        | outgrown => exact he⟩
     | _ => exact hx.elim
   | halt k w =>
     cases k with
     | panic v => exact hx
     | _ => exact hx.elim
  exact mono _ h1.2
/-- Code within a round. -/
def WI (l : Nat) (P : Program) (c : Code) (Q : Exit → Act → World → Prop) (n : Nat) (ρ : List (Nat × Value)) (w : World) : Prop := ∀ a, St n ρ a → c.wpIn (fw (some l)) 0 P Q a w
section
variable {P : Program} {Q : Exit → Act → World → Prop} {n l : Nat} {ρ : List (Nat × Value)} {w : World}
theorem WI.seq {x y : Code} (h : WI l P x (Exit.then (y.wpIn (fw (some l)) 0 P Q) Q) n ρ w) : WI l P (.seq x y) Q n ρ w := fun a ha => wpIn_seq (h a ha)
theorem WI.block {id : Nat} {c : Code} (h : WI l P c (Exit.inBlock id Q) n ρ w) : WI l P (.block id c) Q n ρ w := fun a ha => wpIn_block (h a ha)
theorem WI.region {id : Nat} {ops : List Oper} (h : (wlI (some l) P ops.toArray Q n).S ops ρ w) : WI l P (.region id ops.toArray false) Q n ρ w := fun a ha => wpIn_region_lit (h a ha)
theorem WLI.nil {r : Option Nat} {ops : Array Oper} (h : WX Q .normal n ρ w) : (wlI r P ops Q n).S [] ρ w := fun a ha => h a ha
theorem WI.next {y : Code} (h : WI l P y Q n ρ w) : WX (Exit.then (y.wpIn (fw (some l)) 0 P Q) Q) .normal n ρ w := fun a ha => h a ha
/-- A region in which yield is called. -/
theorem W.regionY {id : Nat} {ops : List Oper} (h : (wlI none P ops.toArray Q n).S ops ρ w) : W P (.region id ops.toArray false) Q n ρ w := fun a ha =>
 (wpIn_wide (n := 0)).1 (wpIn_region_lit (h a ha))
end
/-- A call of yield: the round goes on, and R holds behind it. -/
def YieldM (P : Program) (l : Nat) (args : List Value) (w : World) (R : World → Prop) : Prop :=
 ∃ fn tmps assign body, (Instr.yield l args.toArray).run P w = .ok (.round l fn tmps assign body) w ∧ RoundIn (fw none) 0 P l fn tmps assign body w fun e w' => e = .returned (.bool true) ∧ R w'
theorem WL.yield {P : Program} {ops : Array Oper} {Q : Exit → Act → World → Prop} {n d l : Nat} {ρ : List (Nat × Value)} {w : World} {rest : List Oper} {ty : TypeId} {pos : String} {aft : Array Edge} {x : Operand} {xs : List Operand} {ts : Array TypeId} {args : List Value} {R : World → Prop}
 (hx : ev ρ x = some (.func (.yield l) #[] #[])) (hxs : evs ρ xs = some args) (hy : YieldM P l args w R) (hd : Nat.blt d n = true) (kk : ∀ w', R w' → (wlI none P ops Q n).S rest ((d, .bool true) :: ρ) w') :
 (wlI none P ops Q n).S (⟨some d, .call ⟨.value x, xs.toArray, ts⟩, ty, pos, aft, none⟩ :: rest) ρ w := by
 intro a ha
 refine wpListIn_plain rfl fun K hK => ⟨fun _ _ => trivial, ?_⟩
 obtain ⟨fn, tmps, assign, body, hrun, hround⟩ := hy
 have e := ha.evals hxs
 have e2 : (execOp a.eval ⟨some d, .call ⟨.value x, xs.toArray, ts⟩, ty, pos, aft, none⟩).run P w = .ok (.round l fn tmps assign body) w := by
  simp only [execOp, resolve, Deferred.ofValue, ha.eval hx, Sem.run_bind, Sem.run_pure, Result.andThen_ok, invoke, List.map_toArray, e, Array.append_empty, Array.empty_append, hrun]
 rw [Oper.semAt_eq _ _ _ (fun c hc => by cases hc), e2, Oper.uponIn_round]
 refine ⟨fun h => (by cases h), hround.mono ?_⟩
 rintro e w' ⟨rfl, hr⟩
 exact hK _ _ (kk w' hr _ (ha.put hd _))
/-- A function that goes over something: G: what may come behind what has; S: what has come at its end. LI: what it stands on. -/
def IterM {α : Type} (P : Program) (gf : FuncId) (lb : List Value) (encs : α → List Value) (LI : List Asr) (G : List α → α → Prop) (S : List α → Prop) : Prop :=
 ∀ {σ : Type} (w0 w : World) (l : Nat) (JL : σ → List Asr) (F : List α → σ → Prop) (z0 : σ), F [] z0 → Mem w0 w (LI ++ JL z0) →
  (∀ LX pre x z w1, G pre x → F pre z → Mem w0 w1 (JL z ++ LX) → YieldM P l (encs x) w1 fun w2 => ∃ z', F (pre ++ [x]) z' ∧ Mem w0 w2 (JL z' ++ LX)) →
  Fn P gf (.func (.yield l) #[] #[] :: lb) w fun _ w' => ∃ xs z, S xs ∧ F xs z ∧ Mem w0 w' (LI ++ JL z)
/-- The frame with deferred calls behind its own. -/
def lift (ds : List Deferred) (a : Act) : Act := { a with defers := a.defers ++ ds }
theorem lift_put (ds : List Deferred) (a : Act) (d : Option Tmp) (v : Value) : lift ds (a.put d v) = (lift ds a).put d v := by unfold lift Act.put; cases d <;> rfl
theorem wp_lift {P : Program} {ds : List Deferred} {o : Oper} {a : Act} {w : World} {K : Act → World → Prop} {Q : Exit → Act → World → Prop} (h : o.wp P a w (fun a w => K (lift ds a) w) (fun e a w => Q e (lift ds a) w)) : o.wp P (lift ds a) w K Q := by
 unfold Oper.wp at h ⊢
 have e : (lift ds a).eval = a.eval := rfl
 rw [e]
 generalize (execOp a.eval o).run P w = x at h ⊢
 cases x with
 | ok v w =>
   cases v with
   | value v => have h2 : K (lift ds (a.put o.dst v)) w := h; rw [lift_put] at h2; exact h2
   | skip => have h2 : K (lift ds (a.put o.dst undef)) w := h; rw [lift_put] at h2; exact h2
   | defer d =>
     have h2 : K (lift ds ({ a with defers := d :: a.defers }.put o.dst undef)) w := h
     rw [lift_put] at h2
     exact h2
   | enter f args => exact Calls.mono h fun e w' he => by cases e with
     | returned v => have h2 : K (lift ds (a.put o.dst v)) w' := he; rw [lift_put] at h2; exact h2
     | panicked c => exact he
     | outgrown => obtain ⟨a2, w2, h2⟩ := he; exact ⟨_, _, h2⟩
   | row row args => exact Rows.mono h fun v w' he => by have h2 : K (lift ds (a.put o.dst v)) w' := he; rw [lift_put] at h2; exact h2
   | _ => exact h.elim
 | halt k w =>
   cases k with
   | panic v => exact h
   | _ => exact h.elim
theorem wpList_lift {P : Program} {ds : List Deferred} {ops : Array Oper} {Q : Exit → Act → World → Prop} : ∀ (l : List Oper) (a : Act) (w : World), wpList P ops (fun e a w => Q e (lift ds a) w) l a w → wpList P ops Q l (lift ds a) w
 | [], _, _, h => h
 | o :: rest, a, w, h => by
   unfold wpList at h ⊢
   have e : yielded ops (lift ds a).tmps = yielded ops a.tmps := rfl
   rw [e]
   split
   ·rename_i hw
    rw [if_pos hw] at h
    rcases h with h | ⟨h, a2, w2, h3⟩
    rotate_left
    ·exact .inr ⟨h, _, _, h3⟩
    left
    refine wp_lift ?_
    have mono : ∀ x, o.upon P a (wpList P ops (fun e a w => Q e (lift ds a) w) rest) (fun e a w => Q e (lift ds a) w) x → o.upon P a (fun a w => wpList P ops Q rest (lift ds a) w) (fun e a w => Q e (lift ds a) w) x := by
     intro x hx
     cases x with
     | ok v w =>
       cases v with
       | value v => exact wpList_lift rest _ _ hx
       | skip => exact wpList_lift rest _ _ hx
       | defer d => exact wpList_lift rest _ _ hx
       | enter f args => exact Calls.mono hx fun e w' he => by cases e with
         | returned v => exact wpList_lift rest _ _ he
         | panicked c => exact he
         | outgrown => exact he
       | row row args => exact Rows.mono hx fun v w' he => wpList_lift rest _ _ he
       | _ => exact hx.elim
     | halt k w =>
       cases k with
       | panic v => exact hx
       | _ => exact hx.elim
    exact mono _ h
   ·rename_i hw
    rw [if_neg hw] at h
    have := wpList_lift rest _ _ h
    rw [lift_put] at this
    exact this
theorem anyG_lift {P : Program} {ds : List Deferred} {ops : Array Oper} {Q : Exit → Act → World → Prop} {S : World → Prop} {G : Nat → Bool} : ∀ (f : Nat) (listed : Array Bool) (a : Act) (w : World), anyG P ops (fun e a w => Q e (lift ds a) w) S G f listed a w → anyG P ops Q S G f listed (lift ds a) w
 | 0, _, _, _, h => h
 | f + 1, listed, a, w, h => ⟨h.1, fun i hi => by
    have h2 := h.2 i hi
    unfold wpOp at h2 ⊢
    split
    ·rename_i ho
     rw [ho] at h2
     exact ⟨h2.1, anyG_lift f _ _ _ h2.2⟩
    ·rename_i o ho
     rw [ho] at h2
     have e : yielded ops (lift ds a).tmps = yielded ops a.tmps := rfl
     rw [e]
     split
     ·rename_i hw
      simp only [hw, if_true] at h2
      rcases h2 with h2 | ⟨h2, a2, w2, h3⟩
      ·left
       refine wp_lift ?_
       unfold Oper.wp at h2 ⊢
       revert h2
       generalize (execOp a.eval o).run P w = x
       intro hx
       have sub : ∀ a' w', (G i = true → S w') ∧ anyG P ops (fun e a w => Q e (lift ds a) w) S G f (listed.setIfInBounds i true) a' w' → (G i = true → S w') ∧ anyG P ops Q S G f (listed.setIfInBounds i true) (lift ds a') w' := fun a' w' hh => ⟨hh.1, anyG_lift f _ _ _ hh.2⟩
       cases x with
       | ok v w =>
         cases v with
         | value v => exact sub _ _ hx
         | skip => exact sub _ _ hx
         | defer d => exact sub _ _ hx
         | enter f args => exact Calls.mono hx fun e w' he => by cases e with
           | returned v => exact sub _ _ he
           | panicked c => exact he
           | outgrown => exact he
         | row row args => exact Rows.mono hx fun v w' he => sub _ _ he
         | _ => exact hx.elim
       | halt k w =>
         cases k with
         | panic v => exact hx
         | _ => exact hx.elim
      ·exact .inr ⟨h2, _, _, h3⟩
     ·rename_i hw
      simp only [hw] at h2
      have := anyG_lift f _ _ _ h2.2
      rw [lift_put] at this
      exact ⟨h2.1, this⟩⟩
def Ql (ds : List Deferred) (Q : Exit → Act → World → Prop) : Exit → Act → World → Prop := fun e a w => Q e (lift ds a) w
/-- Code behind a range over a function. -/
def Wd (ds : List Deferred) (P : Program) (c : Code) (Q : Exit → Act → World → Prop) (n : Nat) (ρ : List (Nat × Value)) (w : World) : Prop := ∀ a, St n ρ a → c.wp P Q (lift ds a) w
/-- What a body with a range over a function must end in. -/
def DoneM (P : Program) (fn : Func) (R : Value → World → Prop) : Exit → Act → World → Prop := bodyPostM (fw none) 0 P fn fun e w' => ∃ v, e = .returned v ∧ R v w'
def markOf (D : Nat) : List Deferred := [{ target := .collected D, args := #[] }]
section
variable {P : Program} {Q : Exit → Act → World → Prop} {n D : Nat} {ρ : List (Nat × Value)} {w0 w : World} {ds : List Deferred} {L L' : List Asr}
theorem Wd.sub {c : Code} (ρ' : List (Nat × Value)) (hs : envSub ρ ρ') (h : Wd ds P c Q n ρ' w) : Wd ds P c Q n ρ w := fun a ha => h a (ha.sub hs)
theorem Wd.seq {x y : Code} (h : Wd ds P x (Exit.then (y.wp P Q) Q) n ρ w) : Wd ds P (.seq x y) Q n ρ w := fun a ha => wp_seq (h a ha)
theorem Wd.region {id : Nat} {l : List Oper} (h : (wl P l.toArray (Ql ds Q) n).S l ρ w) : Wd ds P (.region id l.toArray false) Q n ρ w := fun a ha => wp_region_lit (wpList_lift _ _ _ (h a ha))
theorem Wd.next {y : Code} (h : Wd ds P y Q n ρ w) : WX (Ql ds (Exit.then (y.wp P Q) Q)) .normal n ρ w := fun a ha => h a ha
theorem Wd.blockNormal {id : Nat} (h : WX (Ql ds Q) .normal n ρ w) : WX (Ql ds (Exit.inBlock id Q)) .normal n ρ w := fun a ha => h a ha
theorem params1 {v : Value} {p : Nat} {a : Act} (ha : St n ρ a) (hp : Nat.blt p n = true) : St n ((p, v) :: ρ) { tmps := ((#[p] : Array Tmp).zip [v].toArray).foldl (fun t (p, v) => t.setIfInBounds p v) a.tmps, defers := [] } := by
 have h := ha.put hp v
 refine ⟨rfl, ?_, fun t u hu => ?_⟩
 ·have := h.size; simpa [Act.put] using this
 ·have := h.get t u hu; simpa [Act.put] using this
theorem params2 {v u : Value} {p q : Nat} {a : Act} (ha : St n ρ a) (hp : Nat.blt p n = true) (hq : Nat.blt q n = true) : St n ((q, u) :: (p, v) :: ρ) { tmps := ((#[p, q] : Array Tmp).zip [v, u].toArray).foldl (fun t (p, v) => t.setIfInBounds p v) a.tmps, defers := [] } := by
 have h := (ha.put hp v).put hq u
 refine ⟨rfl, ?_, fun t x hx => ?_⟩
 ·have := h.size; simpa [Act.put] using this
 ·have := h.get t x hx; simpa [Act.put] using this
theorem Wd.ret (h : WX (Ql ds Q) .ret n ρ w) : Wd ds P .ret Q n ρ w := fun a ha => wp_ret (h a ha)
theorem Wd.drawM {id : Nat} {l : List Oper} (K : List Asr) (hm : P.follows .mixedOrders = true) (G : Nat → Bool) (M : Mem w0 w L) (_ : Sel L K)
 (h : Mem w0 w.drew L → DG P l.toArray (Ql ds Q) (fun w => Mem w0 w K) G l.length [] n ρ w.drew) : Wd ds P (.region id l.toArray true) Q n ρ w := fun a ha => by
 have h1 := h M.drew a ha
 have h2 : anyG P l.toArray (noPan Q) (fun w => Mem w0 w K) G l.length (marked_ l.toArray.size []) (lift ds a) w.drew := by
  refine anyG_lift _ _ _ _ ?_
  have e : noPan (Ql ds Q) = fun e a w => noPan Q e (lift ds a) w := by
   funext e a w
   cases e <;> rfl
  rw [← e]
  exact h1
 exact Code.wp_mono (Q := noPan Q) (fun e a w hq => by cases e <;> first | exact hq | exact hq.elim) (wp_region_any hm (any_of_G _ _ _ _ (by simpa [marked_] using h2)))
theorem FnM.enter {f : FuncId} {fn : Func} {c : Code} {args : List Value} {R : Value → World → Prop} (hf : P.funcs[f]? = some fn) (hb : fn.body = some c)
 (hn : fn.ntmps = n) (hlen : Nat.ble args.length n = true) (h : W P c (DoneM P fn R) n ((List.range args.length).zip args) w) : Fn P f args w R := by
 refine (callsIn_wide (n := 0)).1 (callsIn_of_wp_marks hf hb trivial ((wpIn_wide (n := 0)).2 (h _ ⟨rfl, ?_, ?_⟩)))
 ·have : args.length ≤ n := by simpa using hlen
  simp only [Array.size_append, List.size_toArray, Array.size_replicate, hn]
  omega
 ·intro t v hv
  have key : ∀ (l : List Value) (k : Nat), envGet ((List.range' k l.length).zip l) t = some v → k ≤ t ∧ l[t - k]? = some v := by
   intro l
   induction l with
   | nil => intro k h; simp [envGet] at h
   | cons x l ih =>
     intro k h
     simp only [List.length_cons, List.range'_succ, List.zip_cons_cons, envGet_cons] at h
     by_cases e : k = t
     ·subst e
      simp only [if_true, Option.some.injEq] at h
      subst h
      simp
     ·rw [if_neg e] at h
      obtain ⟨h1, h2⟩ := ih (k + 1) h
      refine ⟨by omega, ?_⟩
      rw [show t - k = (t - (k + 1)) + 1 by omega]
      simpa using h2
  rw [List.range_eq_range'] at hv
  obtain ⟨_, h2⟩ := key args 0 hv
  simp only [Nat.sub_zero] at h2
  obtain ⟨hlt, _⟩ := List.getElem?_eq_some_iff.1 h2
  rw [Array.getElem?_append_left (by simpa using hlt)]
  simpa using h2
theorem WX.retMark {fn : Func} {R : Value → World → Prop} {t : Tmp} {v : Value} (hr : fn.results = #[.tmp t]) (hv : envGet ρ t = some v) (M : Mem w0 w L) (h : Del (Asr.obj D (.deferred (some []))) L L') (kk : ∀ w', Mem w0 w' L' → R v w') :
 WX (Ql (markOf D) (DoneM P fn R)) .ret n ρ w := fun a ha => by
 have M1 := M.del h
 have hK : w.heap[D]? = some (.deferred (some [])) := M1.head
 show LeavesInM _ _ _ _ _ _ (lift (markOf D) a).defers _ _
 have e : (lift (markOf D) a).defers = markOf D := by show a.defers ++ markOf D = _; rw [ha.defers]; rfl
 rw [e]
 have M2 : Mem w0 (w.putObj D (.deferred none)) L' := by
  obtain ⟨h1, h2⟩ := heap_set (o' := .deferred none) hK
  have M3 : Mem w0 (w.putObj D (.deferred none)) (Asr.obj D (.deferred none) :: L') := M1.write ⟨rfl, rfl, rfl, by simp [World.putObj], fun k _ hk => h2 k (fun e => hk e)⟩ h1 (fun _ hf => .inl hf)
  exact M3.tail
 exact ⟨by simp, .inl ⟨D, _, rfl, run_takeDeferred hK, v, by rw [show (lift (markOf D) a).tmps = a.tmps from rfl, results_tmp hr, ha.tmp hv], v, rfl, kk _ M2⟩⟩
/-- A range over a function whose body goes through to its end each time. -/
theorem W.rangeF {α σ : Type} {g : Operand} {ps : Array Tmp} {assign body : Code} {gf : FuncId} {lb : List Value} {encs : α → List Value} {LI : List Asr} {G : List α → α → Prop} {S : List α → Prop}
 (hit : IterM P gf lb encs LI G S) (hg : ev ρ g = some (.func (.func gf) #[] lb.toArray)) (eg : ∀ args w, (callFunc gf args).run P w = .ok (.enter gf args) w) (hps : ∀ x, (encs x).toArray.size = ps.size)
 (JB : σ → List Asr) (F : List α → σ → Prop) (z0 : σ) (hF0 : F [] z0) (M : Mem w0 w (LI ++ JB z0)) (ρx ρy : α → List (Nat × Value))
 (hρ : ∀ x a, St n ρ a → St n (ρx x) { tmps := (ps.zip (encs x).toArray).foldl (fun t (p, v) => t.setIfInBounds p v) a.tmps, defers := [] })
 (hassign : ∀ l x w (K : Act → World → Prop), (∀ a, St n (ρy x) a → K a w) → WI l P assign (Exit.then K (fun _ _ _ => False)) n (ρx x) w)
 (hbody : ∀ l LX pre x z w, G pre x → F pre z → Mem w0 w (JB z ++ LX) → WI l P body (fun e _ w' => e = .normal ∧ ∃ z', F (pre ++ [x]) z' ∧ Mem w0 w' (JB z' ++ LX)) n (ρy x) w)
 (hdone : ∀ D xs z w', S xs → F xs z → Mem w0 w' (Asr.obj D (.deferred (some [])) :: (LI ++ JB z)) → WX (Ql (markOf D) Q) .normal n ρ w') : W P (.rangeFunc g ps assign body) Q n ρ w := by
 intro a ha
 refine (wpIn_wide (n := 0)).1 (wpIn_rangeFunc ?_)
 intro fn hfn
 obtain ⟨rec, hrec⟩ : ∃ rec : LoopState → Loop, rec = fun st => { state := st, pending := none, fn, tmps := a.tmps, params := ps, assign, body, defers := w.heap.size } := ⟨_, rfl⟩
 obtain ⟨D, hD⟩ : ∃ D, D = w.heap.size := ⟨_, rfl⟩
 have hgv := ha.eval hg
 have M1 := (M.alloc (.deferred (some []))).alloc (.loop (rec .ready))
 rw [World.size_alloc, ← hD] at M1
 have pin : ∀ (A B : List Asr) (o o2 : Asr), ((A ++ [o, o2]) ++ B).Perm (o :: (A ++ (o2 :: B))) := by
  intro A B o o2
  rw [List.append_assoc]
  exact List.perm_middle
 refine ⟨D + 1, markOf D, (w.alloc (.deferred (some []))).alloc (.loop (rec .ready)), { target := .fn (.func gf) lb.toArray, args := #[.func (.yield (D + 1)) #[] #[]] }, (w.alloc (.deferred (some []))).alloc (.loop (rec .ready)), gf,
  #[.func (.yield (D + 1)) #[] #[]] ++ lb.toArray, (w.alloc (.deferred (some []))).alloc (.loop (rec .ready)), ?_, ?_, ?_, ?_, fun h => (by cases h), ?_⟩
 ·rw [hrec, hD]
  exact run_enterLoop_outer _ _ _ _ _
 ·simp only [resolve, hgv]
  simp [go_sem]
 ·intro f' _
  trivial
 ·simp [invoke, go_sem, eg]
 ·have JL0 : Mem w0 ((w.alloc (.deferred (some []))).alloc (.loop (rec .ready))) (LI ++ (JB z0 ++ [Asr.obj (D + 1) (.loop (rec .ready)), Asr.obj D (.deferred (some []))])) := by
   refine M1.perm ?_
   rw [← List.append_assoc]
   exact List.perm_append_comm (l₁ := [Asr.obj (D + 1) (.loop (rec .ready)), Asr.obj D (.deferred (some []))])
  have hcall := hit w0 _ (D + 1) (fun z => JB z ++ [Asr.obj (D + 1) (.loop (rec .ready)), Asr.obj D (.deferred (some []))]) F z0 hF0 JL0 ?_
  ·have h2 : Calls P gf (#[.func (.yield (D + 1)) #[] #[]] ++ lb.toArray) ((w.alloc (.deferred (some []))).alloc (.loop (rec .ready))) (fun e w' => ∃ v, e = .returned v ∧ ∃ xs z, S xs ∧ F xs z ∧ Mem w0 w' (LI ++ (JB z ++ [Asr.obj (D + 1) (.loop (rec .ready)), Asr.obj D (.deferred (some []))]))) := by
    have h3 := hcall
    unfold Fn at h3
    have e : #[Value.func (.yield (D + 1)) #[] #[]] ++ lb.toArray = (Value.func (.yield (D + 1)) #[] #[] :: lb).toArray := by simp
    rw [e]
    exact h3
   refine callsIn_fw (r := none) (Calls.mono h2 ?_)
   rintro e w' ⟨v, rfl, xs, z, hS, hF, M2⟩
   have M3 : Mem w0 w' (Asr.obj (D + 1) (.loop (rec .ready)) :: Asr.obj D (.deferred (some [])) :: (LI ++ JB z)) := by
    refine M2.perm ?_
    rw [← List.append_assoc]
    exact (List.perm_append_comm (l₂ := [Asr.obj (D + 1) (.loop (rec .ready)), Asr.obj D (.deferred (some []))]))
   have hl2 : w'.heap[D + 1]? = some (.loop (rec .ready)) := M3.head
   have hrun := run_endLoop (P := P) hl2 (by rw [hrec]; simp)
   obtain ⟨h1, h2⟩ := heap_set (o' := .loop { rec .ready with state := .exhausted }) hl2
   have M4' : Mem w0 (w'.putObj (D + 1) (.loop { rec .ready with state := .exhausted })) (Asr.obj (D + 1) (.loop { rec .ready with state := .exhausted }) :: Asr.obj D (.deferred (some [])) :: (LI ++ JB z)) :=
    M3.write ⟨rfl, rfl, rfl, by simp [World.putObj], fun k _ hk => h2 k (fun e => hk e)⟩ h1 (fun _ hf => .inl hf)
   have M4 := M4'.tail
   refine ⟨none, w'.putObj (D + 1) (.loop { rec .ready with state := .exhausted }), ?_, ?_⟩
   ·rw [hrun, hrec]
   ·have h5 := hdone D xs z _ hS hF M4 a ha
    have e : lift (markOf D) a = { a with defers := markOf D ++ a.defers } := by
     unfold lift
     rw [ha.defers]
     rfl
    unfold Ql at h5
    rw [e] at h5
    exact h5
  ·intro LX pre x z w1 hG hF M2
   have M3 := M2.perm (pin ..)
   have hl2 : w1.heap[D + 1]? = some (.loop (rec .ready)) := M3.head
   have hy := run_yield (P := P) (args := (encs x).toArray) hl2 (by rw [hrec]; exact hps x)
   refine ⟨_, _, _, _, hy, roundIn_of_wpIn (by rw [hrec]; exact hfn) ?_⟩
   have hst := hρ x a ha
   obtain ⟨h1, h2⟩ := heap_set (o' := .loop { rec .ready with state := .busy }) hl2
   have M4 : Mem w0 (w1.putObj (D + 1) (.loop { rec .ready with state := .busy })) (Asr.obj (D + 1) (.loop { rec .ready with state := .busy }) :: (JB z ++ (Asr.obj D (.deferred (some [])) :: LX))) :=
    M3.write (B := Asr.obj (D + 1) (.loop { rec .ready with state := .busy })) ⟨rfl, rfl, rfl, by simp [World.putObj], fun k _ hk => h2 k (fun e => hk e)⟩ h1 (fun _ hf => .inl hf)
   have M5 : Mem w0 (w1.putObj (D + 1) (.loop { rec .ready with state := .busy })) (JB z ++ (Asr.obj (D + 1) (.loop { rec .ready with state := .busy }) :: Asr.obj D (.deferred (some [])) :: LX)) :=
    M4.perm List.perm_middle.symm
   have hst2 : St n (ρx x) { tmps := ((rec .ready).params.zip (encs x).toArray).foldl (fun t (p, v) => t.setIfInBounds p v) (rec .ready).tmps, defers := [] } := by rw [hrec]; exact hst
   have hasg := hassign (D + 1) x w1 (fun a₁ w₁ => ∃ w₂, (Instr.beginRound (D + 1)).run P w₁ = .ok () w₂ ∧ body.wpIn ((fw none).inRound (D + 1)) 0 P (roundPost P (D + 1) fun e w' => e = .returned (.bool true) ∧ ∃ z', F (pre ++ [x]) z' ∧ Mem w0 w' ((JB z' ++ [Asr.obj (D + 1) (.loop (rec .ready)), Asr.obj D (.deferred (some []))]) ++ LX)) a₁ w₂) (fun a₁ ha₁ => by
    refine ⟨_, run_beginRound hl2 (by rw [hrec]), ?_⟩
    refine wpIn_mono (hbody (D + 1) _ pre x z _ hG hF M5 a₁ ha₁) ?_
    rintro e a2 w2 ⟨rfl, z', hF', M6⟩
    have M7 : Mem w0 w2 (Asr.obj (D + 1) (.loop { rec .ready with state := .busy }) :: (JB z' ++ (Asr.obj D (.deferred (some [])) :: LX))) := M6.perm List.perm_middle
    have hl3 : w2.heap[D + 1]? = some (.loop { rec .ready with state := .busy }) := M7.head
    have hrun := run_endRound (P := P) none hl3
    obtain ⟨h1, h2⟩ := heap_set (o' := .loop (rec .ready)) hl3
    have M8 : Mem w0 (w2.putObj (D + 1) (.loop (rec .ready))) (Asr.obj (D + 1) (.loop (rec .ready)) :: (JB z' ++ (Asr.obj D (.deferred (some [])) :: LX))) :=
     M7.write (B := Asr.obj (D + 1) (.loop (rec .ready))) ⟨rfl, rfl, rfl, by simp [World.putObj], fun k _ hk => h2 k (fun e => hk e)⟩ h1 (fun _ hf => .inl hf)
    refine ⟨_, _, hrun, rfl, z', hF', ?_⟩
    have M9 := M8.perm (pin ..).symm
    rw [hrec] at M9 ⊢
    exact M9)
   have hfin := hasg _ hst2
   rw [hrec] at hfin ⊢
   exact hfin
end
end Go.Proofs.YtlminileigfkcaaGreat
namespace Go.Proofs.YtlminileigfkcaaGreat
open Go Go.RowKit
theorem tlt_irr (a : List UInt8) : ¬ a < a := List.lt_irrefl a
theorem tlt_tr {a b c : List UInt8} (h1 : a < b) (h2 : b < c) : a < c := List.lt_trans h1 h2
theorem tlt_tot : ∀ {a b : List UInt8}, ¬ a < b → a ≠ b → b < a
 | [], [], _, h => absurd rfl h
 | [], _ :: _, h, _ => absurd (List.nil_lt_cons _ _) h
 | _ :: _, [], _, _ => List.nil_lt_cons _ _
 | x :: a, y :: b, h, hn => by
   rw [List.cons_lt_cons_iff] at h ⊢
   by_cases h1 : y < x
   ·exact .inl h1
   ·by_cases h2 : x < y
    ·exact absurd (.inl h2) h
    ·have e : x = y := by
      apply UInt8.toNat_inj.1
      have q1 : ¬ y.toNat < x.toNat := fun h => h1 (UInt8.lt_iff_toNat_lt.2 h)
      have q2 : ¬ x.toNat < y.toNat := fun h => h2 (UInt8.lt_iff_toNat_lt.2 h)
      omega
     subst e
     exact .inr ⟨rfl, tlt_tot (fun h3 => h (.inr ⟨rfl, h3⟩)) (fun h3 => hn (by rw [h3]))⟩
def SP (l : List Pr) : Prop := l.Pairwise fun p q => p.1 < q.1
def insP (c : Cg) : List Pr := if c.gone = true then [] else [(c.key, c.value)]
/-- Rising pairs behind a change. -/
def lay1 : List Pr → Cg → List Pr
 | [], c => insP c
 | p :: l, c => if p.1 < c.key then p :: lay1 l c else insP c ++ (if p.1 = c.key then l else p :: l)
def layL (l : List Pr) (b : List Cg) : List Pr := b.foldl lay1 l
theorem layL_snoc (l : List Pr) (b : List Cg) (c : Cg) : layL l (b ++ [c]) = lay1 (layL l b) c := by simp [layL, List.foldl_append]
/-- A change's place. -/
theorem lay1_split {c : Cg} : ∀ {l : List Pr}, SP l → ∃ L1 L2, (∀ p ∈ L1, p.1 < c.key) ∧ (∀ p ∈ L2, c.key < p.1) ∧ (l = L1 ++ L2 ∨ ∃ v, l = L1 ++ (c.key, v) :: L2) ∧ lay1 l c = L1 ++ (insP c ++ L2)
 | [], _ => ⟨[], [], by simp, by simp, .inl rfl, by simp [lay1]⟩
 | p :: l, h => by
   obtain ⟨h1, h2⟩ := List.pairwise_cons.1 h
   by_cases hlt : p.1 < c.key
   ·obtain ⟨L1, L2, q1, q2, q3, q4⟩ := lay1_split (c := c) (l := l) h2
    refine ⟨p :: L1, L2, ?_, q2, ?_, ?_⟩
    ·intro x hx
     rcases List.mem_cons.1 hx with rfl | hx
     ·exact hlt
     ·exact q1 x hx
    ·rcases q3 with q3 | ⟨v, q3⟩
     ·exact .inl (by rw [q3]; rfl)
     ·exact .inr ⟨v, by rw [q3]; rfl⟩
    ·rw [lay1, if_pos hlt, q4]
     rfl
   ·rw [lay1, if_neg hlt]
    by_cases he : p.1 = c.key
    ·rw [if_pos he]
     refine ⟨[], l, by simp, fun x hx => ?_, .inr ⟨p.2, ?_⟩, by simp⟩
     ·rw [← he]
      exact h1 x hx
     ·rw [← he]
      rfl
    ·rw [if_neg he]
     refine ⟨[], p :: l, by simp, fun x hx => ?_, .inl rfl, by simp⟩
     have hg := tlt_tot hlt he
     rcases List.mem_cons.1 hx with rfl | hx
     ·exact hg
     ·exact tlt_tr hg (h1 x hx)
theorem insP_mem {c : Cg} {p : Pr} (h : p ∈ insP c) : p.1 = c.key ∧ p.2 = c.value := by
 unfold insP at h
 split at h
 ·cases h
 ·rw [List.mem_singleton] at h
  subst h
  exact ⟨rfl, rfl⟩
theorem lay1_SP {l : List Pr} {c : Cg} (h : SP l) : SP (lay1 l c) := by
 obtain ⟨L1, L2, q1, q2, q3, q4⟩ := lay1_split (c := c) h
 have hs : SP (L1 ++ L2) := by
  rcases q3 with q3 | ⟨v, q3⟩
  ·rw [← q3]; exact h
  ·rw [q3] at h
   exact h.sublist ((List.sublist_cons_self _ _).append_left _)
 obtain ⟨s1, s2, s3⟩ := List.pairwise_append.1 hs
 rw [q4]
 refine List.pairwise_append.2 ⟨s1, List.pairwise_append.2 ⟨?_, s2, ?_⟩, ?_⟩
 ·unfold insP
  split
  ·exact List.Pairwise.nil
  ·exact List.pairwise_singleton ..
 ·intro a ha b hb
  rw [(insP_mem ha).1]
  exact q2 b hb
 ·intro a ha b hb
  rcases List.mem_append.1 hb with hb | hb
  ·rw [(insP_mem hb).1]
   exact q1 a ha
  ·exact s3 a ha b hb
theorem lay1_mem {l : List Pr} {c : Cg} {p : Pr} (hs : SP l) (h : p ∈ lay1 l c) : p ∈ l ∨ (p.1 = c.key ∧ p.2 = c.value) := by
 obtain ⟨L1, L2, q1, q2, q3, q4⟩ := lay1_split (c := c) hs
 rw [q4] at h
 have hin : ∀ x, x ∈ L1 ∨ x ∈ L2 → x ∈ l := by
  intro x hx
  rcases q3 with q3 | ⟨v, q3⟩
  ·rw [q3]; exact List.mem_append.2 hx
  ·rw [q3]
   rcases hx with hx | hx
   ·exact List.mem_append.2 (.inl hx)
   ·exact List.mem_append.2 (.inr (List.mem_cons_of_mem _ hx))
 rcases List.mem_append.1 h with h | h
 ·exact .inl (hin p (.inl h))
 ·rcases List.mem_append.1 h with h | h
  ·exact .inr (insP_mem h)
  ·exact .inl (hin p (.inr h))
theorem layL_SP : ∀ (b : List Cg) {l : List Pr}, SP l → SP (layL l b)
 | [], _, h => h
 | c :: b, l, h => by
   show SP (layL (lay1 l c) b)
   exact layL_SP b (lay1_SP h)
theorem layL_mem : ∀ (b : List Cg) {l : List Pr} {p : Pr}, SP l → p ∈ layL l b → p ∈ l ∨ ∃ c ∈ b, p.1 = c.key ∧ p.2 = c.value
 | [], _, _, _, h => .inl h
 | c :: b, l, p, hs, h => by
   have h : p ∈ layL (lay1 l c) b := h
   rcases layL_mem b (lay1_SP hs) h with h | ⟨d, hd, e⟩
   ·rcases lay1_mem hs h with h | h
    ·exact .inl h
    ·exact .inr ⟨c, List.mem_cons_self .., h⟩
   ·exact .inr ⟨d, List.mem_cons_of_mem _ hd, e⟩
theorem lay1_len {l : List Pr} {c : Cg} (hs : SP l) : (lay1 l c).length ≤ l.length + 1 := by
 obtain ⟨L1, L2, q1, q2, q3, q4⟩ := lay1_split (c := c) hs
 have hi : (insP c).length ≤ 1 := by unfold insP; split <;> simp
 have hl := congrArg List.length q4
 simp only [List.length_append] at hl
 rcases q3 with q3 | ⟨v, q3⟩
 ·have := congrArg List.length q3
  simp only [List.length_append] at this
  omega
 ·have := congrArg List.length q3
  simp only [List.length_append, List.length_cons] at this
  omega
theorem layL_len : ∀ (b : List Cg) {l : List Pr}, SP l → (layL l b).length ≤ l.length + b.length
 | [], _, _ => Nat.le_refl _
 | c :: b, l, h => by
   have h1 := layL_len b (lay1_SP (c := c) h)
   have h2 := lay1_len (c := c) h
   show (layL (lay1 l c) b).length ≤ _
   rw [List.length_cons]
   omega
/-- What the document's loop puts together. -/
theorem lay1_at {c : Cg} : ∀ {l : List Pr} {k : Nat}, k ≤ l.length → (∀ j, j < k → (el l j).1 < c.key) → (k < l.length → ¬ (el l k).1 < c.key) →
 lay1 l c = l.take k ++ insP c ++ l.drop (if k < l.length ∧ (el l k).1 = c.key then k + 1 else k)
 | [], k, hk, _, _ => by
   obtain rfl : k = 0 := by simpa using hk
   simp [lay1]
 | p :: l, 0, _, _, h2 => by
   have h3 := h2 (by simp)
   have e : el (p :: l) 0 = p := rfl
   rw [e] at h3 ⊢
   rw [lay1, if_neg h3]
   by_cases h4 : p.1 = c.key
   ·rw [if_pos h4, if_pos ⟨by simp, h4⟩]
    simp
   ·rw [if_neg h4, if_neg (fun h => h4 h.2)]
    simp
 | p :: l, k + 1, hk, h1, h2 => by
   have e : ∀ j, el (p :: l) (j + 1) = el l j := fun j => by simp [el]
   have h3 := h1 0 (by omega)
   have e0 : el (p :: l) 0 = p := rfl
   rw [e0] at h3
   have ih := lay1_at (c := c) (l := l) (k := k) (by simpa using hk) (fun j hj => by have := h1 (j + 1) (by omega); rwa [e] at this) (fun hj => by have := h2 (by simpa using hj); rwa [e] at this)
   rw [lay1, if_pos h3, ih, e]
   by_cases h4 : k < l.length ∧ (el l k).1 = c.key
   ·rw [if_pos h4, if_pos ⟨by simpa using h4.1, h4.2⟩]
    simp
   ·rw [if_neg h4, if_neg (fun h => h4 ⟨by simpa using h.1, h.2⟩)]
    simp
/-- The same as a map. -/
def mapC (ms : List Pr) (c : Cg) : List Pr := if c.gone = true then mdel ms c.key else mput ms c.key c.value
def mapL (ms : List Pr) (b : List Cg) : List Pr := b.foldl mapC ms
theorem mapL_snoc (l : List Pr) (b : List Cg) (c : Cg) : mapL l (b ++ [c]) = mapC (mapL l b) c := by simp [mapL, List.foldl_append]
theorem SP.keys {l : List Pr} (h : SP l) : (l.map (·.1)).Nodup := by
 rw [List.nodup_iff_pairwise_ne, List.pairwise_map]
 refine h.imp ?_
 intro a b h1 h2
 rw [h2] at h1
 exact tlt_irr _ h1
theorem mdel_none {κ α : Type} [DecidableEq κ] {ms : List (κ × α)} {k : κ} (h : k ∉ ms.map (·.1)) : mdel ms k = ms := by
 induction ms with
 | nil => rfl
 | cons p r ih =>
   obtain ⟨k', b⟩ := p
   simp only [List.map_cons, List.mem_cons, not_or] at h
   rw [mdel_cons, if_neg (fun e => h.1 e.symm), ih h.2]
theorem mget_of_mem {κ α : Type} [DecidableEq κ] {ms : List (κ × α)} {k : κ} {a : α} (hn : (ms.map (·.1)).Nodup) (h : (k, a) ∈ ms) : mget ms k = some a := by
 induction ms with
 | nil => cases h
 | cons p r ih =>
   obtain ⟨k', b⟩ := p
   simp only [List.map_cons, List.nodup_cons] at hn
   rw [mget_cons]
   rcases List.mem_cons.1 h with h | h
   ·cases h
    rw [if_pos rfl]
   ·rw [if_neg]
    ·exact ih hn.2 h
    ·intro e
     subst e
     exact hn.1 (List.mem_map.2 ⟨_, h, rfl⟩)
theorem mput_perm {κ α : Type} [DecidableEq κ] {ms : List (κ × α)} {k : κ} {a b : α} (h : mget ms k = some a) : (mput ms k b).Perm ((k, b) :: mdel ms k) := by
 induction ms with
 | nil => cases h
 | cons p r ih =>
   obtain ⟨k', x⟩ := p
   rw [mget_cons] at h
   rw [mput_cons, mdel_cons]
   by_cases e : k' = k
   ·rw [if_pos e, if_pos e]
   ·rw [if_neg e] at h
    rw [if_neg e, if_neg e]
    exact (List.Perm.cons _ (ih h)).trans (List.Perm.swap ..)
theorem mapC_perm {ms l : List Pr} {c : Cg} (hp : ms.Perm l) (hs : SP l) : (mapC ms c).Perm (lay1 l c) := by
 obtain ⟨L1, L2, q1, q2, q3, q4⟩ := lay1_split (c := c) hs
 have hnd : (ms.map (·.1)).Nodup := (hp.map _).nodup_iff.2 hs.keys
 rw [q4]
 unfold mapC insP
 rcases q3 with q3 | ⟨v, q3⟩
 ·have hno : c.key ∉ ms.map (·.1) := by
   rw [(hp.map _).mem_iff, q3]
   simp only [List.map_append, List.mem_append, not_or]
   constructor
   ·intro h
    obtain ⟨p, hp, e⟩ := List.mem_map.1 h
    exact tlt_irr _ (e ▸ q1 p hp)
   ·intro h
    obtain ⟨p, hp, e⟩ := List.mem_map.1 h
    have := q2 p hp
    rw [e] at this
    exact tlt_irr _ this
  split
  ·rw [mdel_none hno]
   rw [q3] at hp
   simpa using hp
  ·rw [mput_new (mget_none hno)]
   rw [q3] at hp
   refine (List.perm_append_comm.trans (List.Perm.cons _ hp)).trans ?_
   exact List.perm_middle.symm
 ·have hin : (c.key, v) ∈ ms := by rw [hp.mem_iff, q3]; simp
  have hg := mget_of_mem hnd hin
  have hd : (mdel ms c.key).Perm (L1 ++ L2) := by
   have h1 := (mdel_perm hg).symm.trans (hp.trans (by rw [q3]))
   exact (h1.trans List.perm_middle).cons_inv
  split
  ·simpa using hd
  ·refine (mput_perm (b := c.value) hg).trans ((List.Perm.cons _ hd).trans ?_)
   exact List.perm_middle.symm
theorem mapL_perm : ∀ (b : List Cg) {ms l : List Pr}, ms.Perm l → SP l → (mapL ms b).Perm (layL l b)
 | [], _, _, h, _ => h
 | c :: b, ms, l, h, hs => by
   show (mapL (mapC ms c) b).Perm (layL (lay1 l c) b)
   exact mapL_perm b (mapC_perm h hs) (lay1_SP hs)
/-- Rising keys of one map are one list. -/
theorem rising_eq : ∀ {k l : List (List UInt8)}, k.Perm l → k.Pairwise (· < ·) → l.Pairwise (· < ·) → k = l
 | [], l, h, _, _ => (List.nil_perm.1 h).symm
 | x :: k, [], h, _, _ => by have := h.length_eq; simp at this
 | x :: k, y :: l, h, h1, h2 => by
   obtain ⟨a1, a2⟩ := List.pairwise_cons.1 h1
   obtain ⟨b1, b2⟩ := List.pairwise_cons.1 h2
   have e : x = y := by
    have hx : x ∈ y :: l := h.mem_iff.1 (List.mem_cons_self ..)
    have hy : y ∈ x :: k := h.mem_iff.2 (List.mem_cons_self ..)
    rcases List.mem_cons.1 hx with e | hx
    ·exact e
    ·rcases List.mem_cons.1 hy with e | hy
     ·exact e.symm
     ·exact absurd (tlt_tr (b1 x hx) (a1 y hy)) (tlt_irr y)
   subst e
   rw [rising_eq h.cons_inv a2 b2]
theorem SP.rising {l : List Pr} (h : SP l) : (l.map (·.1)).Pairwise (· < ·) := List.pairwise_map.2 h
end Go.Proofs.YtlminileigfkcaaGreat
