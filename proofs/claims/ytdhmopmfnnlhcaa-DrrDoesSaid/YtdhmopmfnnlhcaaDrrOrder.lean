/-
  Walk: each flow's jobs are done in their order (seawalllaw21.DrrOrder).
-/
import Derived.Test.YtdhmopmfnnlhcaaWait
import Derived.Test.YtdhmopmfnnlhcaaDrrIn
namespace Go.Proofs.Ytdhmopmfnnlhcaa
open Go Go.RowKit

section
variable {P : Program} {n : Nat} {ρ : List (Nat × Value)} {w : World} {rest : List Oper} {X : SqV P n}
variable {d : Nat} {ty : TypeId} {pos : String} {aft : Array Edge} {x : Operand} {t : TypeId} {α : Type} {E : Enc α}
/-- A part of a thing of a list. -/
theorem WL.loadLP [Inhabited α] {A : Option Addr} {cap j o : Nat} {l : List α} {cs : List Value} (hA : ∀ w, (isAgg t).run P w = .ok true w) (hs : ∀ w, (sizeOf t).run P w = .ok cs.length w) (hx : ev ρ x = some (.pointer (some (atA A (j * E.size + o))))) (h : RdL w E A cap l) (hj : j < l.length)
    (hcs : ((E.cells (el l j)).drop o).take cs.length = cs) (hd : Nat.blt d n = true) (kk : X.S rest ((d, .agg cs.toArray) :: ρ) w) : X.S (⟨some d, .load t x, ty, pos, aft, none⟩ :: rest) ρ w := by
  refine WL.loadAgg hA hs hx (fun q v hv => ?_) hd kk
  rw [atA_add, Nat.add_assoc]
  refine h.cell hj ?_
  rw [← hcs, List.getElem?_take] at hv
  split at hv
  · rw [List.getElem?_drop] at hv
    exact hv
  · cases hv
end

set_option maxRecDepth 10000 in
set_option maxHeartbeats 4000000 in
theorem DrrOrder_ok (A0 : Option Addr) (k0 : Nat) (l0 : List Int) (A1 : Option Addr) (k1 : Nat) (l : List ActX) (w0 : World) (h0 : RdL w0 intE A0 k0 l0) (h1 : RdL w0 actE A1 k1 l) :
    Fn Try.prog 7 [.slice A0 l0.length k0, .slice A1 l.length k1] w0 fun v w' => v = .bool true ∧ Mem w0 w' [] := by
  have M := Mem.refl w0
  obtain ⟨w, hw⟩ : ∃ w, w = w0 := ⟨w0, rfl⟩
  refine Fn.enter Try.func7 rfl Try.ntmps7 rfl ?_
  refine W.sub [(0, _), (1, _)] (.cons rfl (.cons rfl .nil)) ?_
  refine W.seq ?_
  refine W.region ?_
  refine WL.assign rfl rfl ?_
  refine WL.nil ?_
  refine WX.next ?_
  refine W.sub [(0, _), (1, _)] (.cons rfl (.cons rfl .nil)) ?_
  refine W.seq ?_
  refine W.region ?_
  refine WL.move rfl rfl ?_
  refine WL.call Try.call10 rfl (sched_ok (h0.mem M)) rfl ?_
  rintro _ w ⟨x, B, cB, rfl, hxs, hxo, m⟩
  replace M := M.callN m; clear m
  rw [List.append_nil] at M
  have hS := schedL_ok l0
  have hW0 := WaitI.start hS.2.1
  have hN0 := (newS_ok (schedL_good l0)).2
  rw [← hxs] at hW0 hN0
  generalize schedL l0 = sh at M hS hW0 hxs ⊢
  refine WL.move rfl rfl ?_
  refine WL.extractL rfl rfl rfl ?_
  refine WL.extractL rfl rfl rfl ?_
  refine WL.assign rfl rfl ?_
  refine WL.assign rfl rfl ?_
  refine WL.nil ?_
  refine WX.next ?_
  refine W.sub [(1, _), (5, _), (6, _)] (.cons rfl (.cons rfl (.cons rfl .nil))) ?_
  refine W.seq ?_
  refine W.seq ?_
  refine W.region ?_
  refine WL.move rfl rfl ?_
  refine WL.eqNilF Try.underlying24 rfl rfl rfl ?_
  refine WL.nil ?_
  refine WX.next ?_
  refine W.sub [(1, _), (5, _), (6, _), (20, _)] (.cons rfl (.cons rfl (.cons rfl (.cons rfl .nil)))) ?_
  refine W.condF rfl ?_
  refine W.skip ?_
  refine WX.next ?_
  refine W.seq ?_
  refine W.region ?_
  refine WL.alloc Try.zeroValue28 M rfl ?_
  intro g4_0 w M
  try simp only [Value.cells] at M
  try simp only [List.toList_toArray] at M
  refine WL.nil ?_
  refine WX.next ?_
  refine W.sub [(1, _), (5, _), (6, _), (7, _)] (.cons rfl (.cons rfl (.cons rfl (.cons rfl .nil)))) ?_
  refine W.seq ?_
  have M4 : Mem w0 w (Asr.lst waitE (some ⟨g4_0, 0, none⟩) 8 (List.replicate 8 wait0) :: (x.L ++ [Asr.lst intE B cB sh])) := Mem.rowOwn (vs := waitE.all (List.replicate 8 wait0)) M [] rfl rfl rfl (by simp [maxLen]) (Nat.le_refl _)
  replace M := M4.starNoneW 8
  refine W.region ?_
  refine WL.assign rfl rfl ?_
  refine WL.nil ?_
  refine WX.next ?_
  refine W.sub [(1, _), (5, _), (6, _), (7, _), (8, _)] (.cons rfl (.cons rfl (.cons rfl (.cons rfl (.cons rfl .nil))))) ?_
  refine W.seq ?_
  refine W.seq ?_
  refine W.region ?_
  refine WL.assign rfl rfl ?_
  refine WL.nil ?_
  refine WX.next ?_
  refine W.sub [(1, _), (5, _), (6, _), (7, _), (8, _), (9, _)] (.cons rfl (.cons rfl (.cons rfl (.cons rfl (.cons rfl (.cons rfl .nil)))))) ?_
  refine W.block ?_
  refine W.loop (ι := Nat × SdX × List WaX) (fun z => [(1, .slice A1 l.length k1), (5, .pointer (some ⟨z.2.1.g, 0, none⟩)), (6, .slice B sh.length cB), (7, .pointer (some ⟨g4_0, 0, none⟩)), (8, .int .i64 (nJ z.2.1.s.fl : Int)), (9, .int .i64 (z.1 : Int))]) (fun zz w => Mem w0 w ((fun z => z.2.1.L ++ [Asr.lst intE B cB sh, Asr.lst waitE (some ⟨g4_0, 0, none⟩) 8 z.2.2, Asr.star (z.2.2.map WaX.O)]) zz) ∧ (fun z => z.1 ≤ 300 ∧ z.2.1.ok ∧ WaitI z.2.1.s sh.length z.2.2 ∧ nJ z.2.1.s.fl ≤ z.1) zz) (fun z => 300 - z.1) ((0, x, List.replicate 8 wait0)) (by (repeat' (first | exact envSub.nil | refine envSub.cons ?_ ?_)) <;> first | rfl | (refine congrArg some ?_; refine congrArg (Value.int _) ?_; first | omega | (dsimp only; omega)) | (simp; done) | (refine congrArg some ?_; dsimp only; congr 1; omega) | (simp; omega)) ⟨M.sel (by first | ((repeat (first | with_reducible exact Sel.refl | with_reducible exact Sel.nil | with_reducible exact Del.here | with_reducible apply Del.there | with_reducible apply Sel.cons | with_reducible apply Sel.drop)); done) | (repeat (first | exact Sel.refl | exact Sel.nil | exact Del.here | apply Del.there | apply Sel.cons | apply Sel.drop))), ⟨by simp, hxo, hW0, by rw [hN0]; exact Nat.le_refl _⟩⟩ ?_
  clear M; rintro (⟨i, x, ws⟩) w ⟨M, ⟨hi, hxo, hW, hnJ⟩⟩; dsimp only at M hi hxo hW hnJ ⊢
  refine W.sub [(1, _), (5, _), (6, _), (7, _), (8, _), (9, _)] (.cons rfl (.cons rfl (.cons rfl (.cons rfl (.cons rfl (.cons rfl .nil)))))) ?_
  refine W.seq ?_
  refine W.seq ?_
  refine W.region ?_
  refine WL.move rfl rfl ?_
  refine WL.move rfl rfl ?_
  refine WL.len Try.underlying23 rfl rfl ?_
  refine WL.lss rfl rfl rfl ?_
  refine WL.moveIf rfl rfl (fun c1 => ?_) (fun c1 => ?_)
  · refine WL.on rfl rfl ?_
    refine WL.move rfl rfl ?_
    refine WL.on rfl rfl ?_
    refine WL.lss rfl rfl rfl ?_
    refine WL.pickT rfl rfl rfl ?_
    refine WL.nil ?_
    refine WX.next ?_
    refine W.sub [(1, _), (5, _), (6, _), (7, _), (8, _), (9, _), (28, _)] (.cons rfl (.cons rfl (.cons rfl (.cons rfl (.cons rfl (.cons rfl (.cons rfl .nil))))))) ?_
    refine W.ite rfl (fun c2 => ?_) (fun c2 => ?_)
    · have hwl := hW.wl
      have hle := hW.le
      refine W.skip ?_
      refine WX.next ?_
      refine W.seq ?_
      refine W.block ?_
      refine W.seq ?_
      refine W.seq ?_
      refine W.region ?_
      refine WL.move rfl rfl ?_
      refine WL.move rfl rfl ?_
      refine WL.idxA Try.underlying23 Try.sizeOf33 rfl rfl (RdL.isSome (E := actE) (by first | with_reducible assumption | with_reducible exact RdL.mem (by with_reducible assumption) M | exact M.rdL (by first | ((repeat (first | with_reducible exact Has.here | with_reducible refine Has.there ?_)); done) | (repeat (first | exact Has.here | refine Has.there ?_))) | exact RdLH.at (by assumption) (M.sel (by first | ((repeat (first | with_reducible exact Sel.refl | with_reducible exact Sel.nil | with_reducible exact Del.here | with_reducible apply Del.there | with_reducible apply Sel.cons | with_reducible apply Sel.drop)); done) | (repeat (first | exact Sel.refl | exact Sel.nil | exact Del.here | apply Del.there | apply Sel.cons | apply Sel.drop)))) | exact RdL.nil _ _ _) (by omega)) (by omega) (by omega) (by first | exact rfl | exact (Int.toNat_of_nonneg (by omega)).symm) rfl ?_
      refine WL.fieldA (off := 0) Try.underlying33 rfl rfl Try.sizeOf4 rfl rfl rfl ?_
      refine WL.loadE (E := actE) Try.isAgg4 rfl (by first | with_reducible assumption | with_reducible exact RdL.mem (by with_reducible assumption) M | exact M.rdL (by first | ((repeat (first | with_reducible exact Has.here | with_reducible refine Has.there ?_)); done) | (repeat (first | exact Has.here | refine Has.there ?_))) | exact RdLH.at (by assumption) (M.sel (by first | ((repeat (first | with_reducible exact Sel.refl | with_reducible exact Sel.nil | with_reducible exact Del.here | with_reducible apply Del.there | with_reducible apply Sel.cons | with_reducible apply Sel.drop)); done) | (repeat (first | exact Sel.refl | exact Sel.nil | exact Del.here | apply Del.there | apply Sel.cons | apply Sel.drop)))) | exact RdL.nil _ _ _) (by omega) rfl rfl ?_
      refine WL.not rfl rfl ?_
      refine WL.nil ?_
      refine WX.next ?_
      refine W.sub [(1, _), (5, _), (6, _), (7, _), (8, _), (9, _), (36, _)] (.cons rfl (.cons rfl (.cons rfl (.cons rfl (.cons rfl (.cons rfl (.cons rfl .nil))))))) ?_
      refine W.cond rfl (fun c3 => ?_) (fun c3 => ?_)
      · (try simp only [Bool.not_eq_true'] at c3); (try simp only [Bool.not_eq_false'] at c3); (try simp only [decide_eq_true_eq] at c3); (try simp only [decide_eq_false_iff_not] at c3)
        have hjx := jobX_ok (el l i).j (n := sh.length) hS.1
        refine W.seq ?_
        refine W.region ?_
        refine WL.move rfl rfl ?_
        refine WL.move rfl rfl ?_
        refine WL.idxA Try.underlying23 Try.sizeOf33 rfl rfl (RdL.isSome (E := actE) (by first | with_reducible assumption | with_reducible exact RdL.mem (by with_reducible assumption) M | exact M.rdL (by first | ((repeat (first | with_reducible exact Has.here | with_reducible refine Has.there ?_)); done) | (repeat (first | exact Has.here | refine Has.there ?_))) | exact RdLH.at (by assumption) (M.sel (by first | ((repeat (first | with_reducible exact Sel.refl | with_reducible exact Sel.nil | with_reducible exact Del.here | with_reducible apply Del.there | with_reducible apply Sel.cons | with_reducible apply Sel.drop)); done) | (repeat (first | exact Sel.refl | exact Sel.nil | exact Del.here | apply Del.there | apply Sel.cons | apply Sel.drop)))) | exact RdL.nil _ _ _) (by omega)) (by omega) (by omega) (by first | exact rfl | exact (Int.toNat_of_nonneg (by omega)).symm) rfl ?_
        refine WL.fieldA (off := 1) Try.underlying33 rfl rfl Try.sizeOf31 rfl rfl rfl ?_
        refine WL.loadLP (E := actE) (cs := [_, _, _]) Try.isAgg31 Try.sizeOf31 rfl (by first | with_reducible assumption | with_reducible exact RdL.mem (by with_reducible assumption) M | exact M.rdL (by first | ((repeat (first | with_reducible exact Has.here | with_reducible refine Has.there ?_)); done) | (repeat (first | exact Has.here | refine Has.there ?_))) | exact RdLH.at (by assumption) (M.sel (by first | ((repeat (first | with_reducible exact Sel.refl | with_reducible exact Sel.nil | with_reducible exact Del.here | with_reducible apply Del.there | with_reducible apply Sel.cons | with_reducible apply Sel.drop)); done) | (repeat (first | exact Sel.refl | exact Sel.nil | exact Del.here | apply Del.there | apply Sel.cons | apply Sel.drop)))) | exact RdL.nil _ _ _) (by omega) rfl rfl ?_
        refine WL.move rfl rfl ?_
        refine WL.len Try.underlying22 rfl rfl ?_
        refine WL.call Try.call11 rfl (job_ok (el l i).j sh.length (by omega) _) rfl ?_
        rintro _ w ⟨rfl, m⟩
        replace M := M.call0 m; clear m
        obtain ⟨Y, hY⟩ : ∃ Y, jobX (el l i).j sh.length = Y := ⟨_, rfl⟩
        rw [hY] at hjx ⊢
        clear hY
        obtain ⟨yf, yc, yi⟩ := Y
        unfold JX.v
        dsimp only at hjx ⊢
        obtain ⟨kf, rfl⟩ : ∃ kf : Nat, yf = (kf : Int) := ⟨yf.toNat, by omega⟩
        have hkf : kf < sh.length := by omega
        have hpu := push_says (s := x.s) (j := ⟨(kf : Int), yc, yi⟩) (k := kf) rfl (by rw [hW.len]; exact hkf) (by dsimp only; omega) (by omega)
        refine WL.alloc Try.zeroValue31 M rfl ?_
        intro g10_8 w M
        try simp only [Value.cells] at M
        try simp only [List.toList_toArray] at M
        refine WL.storeWA Try.sizeOf31 rfl rfl (by repeat (first | exact oneNil | refine oneCons rfl ?_)) rfl rfl M (by first | ((repeat (first | with_reducible exact Upd.here | with_reducible apply Upd.there)); done) | (repeat (first | exact Upd.here | apply Upd.there))) ?_
        intro w M
        refine WL.nil ?_
        refine WX.next ?_
        refine W.sub [(1, _), (5, _), (6, _), (7, _), (8, _), (9, _), (10, _)] (.cons rfl (.cons rfl (.cons rfl (.cons rfl (.cons rfl (.cons rfl (.cons rfl .nil))))))) ?_
        refine W.seq ?_
        refine W.seq ?_
        refine W.region ?_
        refine WL.move rfl rfl ?_
        refine WL.loadW Try.isAgg31 Try.sizeOf31 rfl M (by first | ((repeat (first | with_reducible exact Has.here | with_reducible refine Has.there ?_)); done) | (repeat (first | exact Has.here | refine Has.there ?_))) rfl rfl ?_
        refine WL.call Try.call12 rfl (Push1_ok x hxo ⟨(kf : Int), yc, yi⟩ w0 w _ (M.sel (K := x.L ++ (Asr.lst intE B cB sh :: Asr.lst waitE (some ⟨g4_0, 0, none⟩) 8 ws :: Asr.star (ws.map WaX.O) :: [Asr.row g10_8 31 [.int .i64 (kf : Int), .int .i64 yc, .int .u64 (yi : Int)]])) (by first | ((repeat (first | with_reducible exact Sel.refl | with_reducible exact Sel.nil | with_reducible exact Del.here | with_reducible apply Del.there | with_reducible apply Sel.cons | with_reducible apply Sel.drop)); done) | (repeat (first | exact Sel.refl | exact Sel.nil | exact Del.here | apply Del.there | apply Sel.cons | apply Sel.drop))))) rfl ?_
        rintro _ w ⟨x2, rfl, hg2, hs2, ho2, M⟩
        rw [hg2, hpu.1]
        refine WL.neI rfl rfl rfl ?_
        refine WL.nil ?_
        refine WX.next ?_
        refine W.sub [(1, _), (5, _), (6, _), (7, _), (8, _), (9, _), (10, _), (48, _)] (.cons rfl (.cons rfl (.cons rfl (.cons rfl (.cons rfl (.cons rfl (.cons rfl (.cons rfl .nil)))))))) ?_
        refine W.ite rfl (fun c4 => ?_) (fun c4 => ?_)
        · exact absurd rfl c4
        · refine W.skip ?_
          refine WX.next ?_
          refine W.seq ?_
          have M2 := Mem.starAt (f := WaX.O) (M.sel (K := Asr.star (ws.map WaX.O) :: Asr.row g10_8 31 [.int .i64 (kf : Int), .int .i64 yc, .int .u64 (yi : Int)] :: Asr.lst waitE (some ⟨g4_0, 0, none⟩) 8 ws :: (x2.L ++ [Asr.lst intE B cB sh])) (by first | ((repeat (first | with_reducible exact Sel.refl | with_reducible exact Sel.nil | with_reducible exact Del.here | with_reducible apply Del.there | with_reducible apply Sel.cons | with_reducible apply Sel.drop)); done) | (repeat (first | exact Sel.refl | exact Sel.nil | exact Del.here | apply Del.there | apply Sel.cons | apply Sel.drop)))) kf (by omega)
          replace M := M2
          have hwj := hW.same kf hkf
          have hwjl : (el ws kf).l.length ≤ 300 := by
            rw [hwj]
            have := sum_pos (x.s.fl.map fun f => f.jobs.length) (el x.s.fl kf).jobs.length (List.mem_map.2 ⟨_, el_mem (by rw [hW.len]; exact hkf), rfl⟩)
            unfold nJ at hnJ
            omega
          refine W.drawM ([Asr.lst waitE (some ⟨g4_0, 0, none⟩) 8 ws, Asr.row g10_8 31 [.int .i64 (kf : Int), .int .i64 yc, .int .u64 (yi : Int)]]) (by kernel_rfl) (fun j => [1, 3, 4, 5, 6, 7, 8].contains j) M (by first | ((repeat (first | with_reducible exact Sel.refl | with_reducible exact Sel.nil | with_reducible exact Del.here | with_reducible apply Del.there | with_reducible apply Sel.cons | with_reducible apply Sel.drop)); done) | (repeat (first | exact Sel.refl | exact Sel.nil | exact Del.here | apply Del.there | apply Sel.cons | apply Sel.drop))) ?_
          clear M; intro M
          apply DG.pure_ [0, 2] 9 rfl (by kernel_rfl) (by kernel_rfl)
          · intro w
            refine WL.fieldR (off := 0) Try.underlying31 rfl rfl Try.sizeOf3 rfl rfl rfl ?_
            refine WL.fieldR (off := 0) Try.underlying31 rfl rfl Try.sizeOf3 rfl rfl rfl ?_
            exact Chain.end_ rfl
          apply DG.take [1, 3, 4, 5, 6] 4 rfl (by kernel_rfl) (by kernel_rfl) (M.sel (by first | ((repeat (first | with_reducible exact Sel.refl | with_reducible exact Sel.nil | with_reducible exact Del.here | with_reducible apply Del.there | with_reducible apply Sel.cons | with_reducible apply Sel.drop)); done) | (repeat (first | exact Sel.refl | exact Sel.nil | exact Del.here | apply Del.there | apply Sel.cons | apply Sel.drop))))
          · intro w M
            refine WL.loadR Try.isAgg3 rfl M (by first | ((repeat (first | with_reducible exact Has.here | with_reducible refine Has.there ?_)); done) | (repeat (first | exact Has.here | refine Has.there ?_))) rfl rfl ?_
            refine WL.loadR Try.isAgg3 rfl M (by first | ((repeat (first | with_reducible exact Has.here | with_reducible refine Has.there ?_)); done) | (repeat (first | exact Has.here | refine Has.there ?_))) rfl rfl ?_
            refine WL.idxArr Try.underlying28 Try.sizeOf27 rfl rfl (by omega) (by omega) (by first | exact rfl | exact (Int.toNat_of_nonneg (by omega)).symm) rfl ?_
            refine WL.loadE0 (E := waitE) (A := some ⟨g4_0, 0, none⟩) (j := kf) Try.isAgg27 rfl (by first | with_reducible assumption | with_reducible exact RdL.mem (by with_reducible assumption) M | exact M.rdL (by first | ((repeat (first | with_reducible exact Has.here | with_reducible refine Has.there ?_)); done) | (repeat (first | exact Has.here | refine Has.there ?_))) | exact RdLH.at (by assumption) (M.sel (by first | ((repeat (first | with_reducible exact Sel.refl | with_reducible exact Sel.nil | with_reducible exact Del.here | with_reducible apply Del.there | with_reducible apply Sel.cons | with_reducible apply Sel.drop)); done) | (repeat (first | exact Sel.refl | exact Sel.nil | exact Del.here | apply Del.there | apply Sel.cons | apply Sel.drop)))) | exact RdL.nil _ _ _) (by omega) rfl rfl ?_
            refine WL.loadW Try.isAgg31 Try.sizeOf31 rfl M (by first | ((repeat (first | with_reducible exact Has.here | with_reducible refine Has.there ?_)); done) | (repeat (first | exact Has.here | refine Has.there ?_))) rfl rfl ?_
            exact Chain.end_ rfl
          refine DG.step 7 3 rfl (by kernel_rfl) ?_
          refine WL.buildL (E := jobE) (l := [⟨(kf : Int), yc, yi⟩]) Try.elem31 M rfl rfl rfl rfl rfl rfl ?_
          intro g13_7 w M
          refine DG.go (G := fun j => [1, 3, 4, 5, 6, 7, 8].contains j) (i := 7) (f' := 3) (done := [0, 2, 1, 3, 4, 5, 6]) (fun _ => M.sel (by first | ((repeat (first | with_reducible exact Sel.refl | with_reducible exact Sel.nil | with_reducible exact Del.here | with_reducible apply Del.there | with_reducible apply Sel.cons | with_reducible apply Sel.drop)); done) | (repeat (first | exact Sel.refl | exact Sel.nil | exact Del.here | apply Del.there | apply Sel.cons | apply Sel.drop)))) ?_
          refine DG.step 8 2 rfl (by kernel_rfl) ?_
          refine WL.appendWt (el ws kf) (hW.ok kf (by omega)) (news := [⟨(kf : Int), yc, yi⟩]) Try.elem31 rfl rfl M (by first | ((repeat (first | with_reducible exact Del.here | with_reducible apply Del.there)); done) | (repeat (first | exact Del.here | apply Del.there))) (by first | with_reducible assumption | with_reducible exact RdL.mem (by with_reducible assumption) M | exact M.rdL (by first | ((repeat (first | with_reducible exact Has.here | with_reducible refine Has.there ?_)); done) | (repeat (first | exact Has.here | refine Has.there ?_))) | exact RdLH.at (by assumption) (M.sel (by first | ((repeat (first | with_reducible exact Sel.refl | with_reducible exact Sel.nil | with_reducible exact Del.here | with_reducible apply Del.there | with_reducible apply Sel.cons | with_reducible apply Sel.drop)); done) | (repeat (first | exact Sel.refl | exact Sel.nil | exact Del.here | apply Del.there | apply Sel.cons | apply Sel.drop)))) | exact RdL.nil _ _ _) rfl (by simp) (by simp; omega) (by simp [maxLen]; omega) rfl ?_
          intro X w hXo hXl M
          refine DG.go (G := fun j => [1, 3, 4, 5, 6, 7, 8].contains j) (i := 8) (f' := 2) (done := [0, 2, 1, 3, 4, 5, 6, 7]) (fun _ => M.sel (by first | ((repeat (first | with_reducible exact Sel.refl | with_reducible exact Sel.nil | with_reducible exact Del.here | with_reducible apply Del.there | with_reducible apply Sel.cons | with_reducible apply Sel.drop)); done) | (repeat (first | exact Sel.refl | exact Sel.nil | exact Del.here | apply Del.there | apply Sel.cons | apply Sel.drop)))) ?_
          apply DG.pure_ [9] 1 rfl (by kernel_rfl) (by kernel_rfl)
          · intro w
            refine WL.idxArr Try.underlying28 Try.sizeOf27 rfl rfl (by omega) (by omega) (by first | exact rfl | exact (Int.toNat_of_nonneg (by omega)).symm) rfl ?_
            exact Chain.end_ rfl
          refine DG.step 10 0 rfl (by kernel_rfl) ?_
          refine WL.storeE0 (E := waitE) (A := some ⟨g4_0, 0, none⟩) (j := kf) (x' := X) Try.sizeOf27 rfl rfl rfl M (by first | ((repeat (first | with_reducible exact Has.here | with_reducible refine Has.there ?_)); done) | (repeat (first | exact Has.here | refine Has.there ?_))) (by omega) (by repeat (first | exact SetAt.zero | apply SetAt.succ)) (by first | ((repeat (first | with_reducible exact Upd.here | with_reducible apply Upd.there)); done) | (repeat (first | exact Upd.here | apply Upd.there))) ?_
          intro w M
          refine DG.go (G := fun j => [1, 3, 4, 5, 6, 7, 8].contains j) (i := 10) (f' := 0) (done := [0, 2, 1, 3, 4, 5, 6, 7, 8, 9]) (fun h => by cases h) ?_
          refine DG.end_ (by kernel_rfl) ?_
          refine WX.next ?_
          refine W.sub [(1, _), (5, _), (6, _), (7, _), (8, _), (9, _)] (.cons rfl (.cons rfl (.cons rfl (.cons rfl (.cons rfl (.cons rfl .nil)))))) ?_
          refine W.seq ?_
          have M3 := Mem.starSet (f := WaX.O) (l := ws) (x := X) kf (by omega) (M.sel (K := X.O :: Asr.star ((ws.eraseIdx kf).map WaX.O) :: Asr.lst waitE (some ⟨g4_0, 0, none⟩) 8 (ws.set kf X) :: (x2.L ++ [Asr.lst intE B cB sh])) (by first | ((repeat (first | with_reducible exact Sel.refl | with_reducible exact Sel.nil | with_reducible exact Del.here | with_reducible apply Del.there | with_reducible apply Sel.cons | with_reducible apply Sel.drop)); done) | (repeat (first | exact Sel.refl | exact Sel.nil | exact Del.here | apply Del.there | apply Sel.cons | apply Sel.drop))))
          replace M := M3
          have hW2 := hW.push (j := ⟨(kf : Int), yc, yi⟩) rfl hkf (by dsimp only; omega) (by omega) hXo hXl
          have hnJ2 := hpu.2.2.2.2
          rw [← hs2] at hW2 hnJ2
          have hen : (nJ x.s.fl : Int) + 1 = (nJ x2.s.fl : Int) := by omega
          refine W.region ?_
          refine WL.move rfl rfl ?_
          refine WL.add rfl rfl (show IntKind.i64.wrap ((nJ x.s.fl : Int) + 1) = (nJ x2.s.fl : Int) by rw [wI64 (by omega)]; exact hen) rfl ?_
          refine WL.assign rfl rfl ?_
          refine WL.nil ?_
          refine WX.next ?_
          refine W.sub [(1, _), (5, _), (6, _), (7, _), (8, _), (9, _)] (.cons rfl (.cons rfl (.cons rfl (.cons rfl (.cons rfl (.cons rfl .nil)))))) ?_
          refine W.exit ?_
          refine WX.thenExit ?_
          refine WX.blockHere ?_
          refine WX.next ?_
          refine W.region ?_
          refine WL.move rfl rfl ?_
          refine WL.add rfl rfl (by first | exact wI64 (by omega) | rfl) rfl ?_
          refine WL.assign rfl rfl ?_
          refine WL.nil ?_
          refine WX.round ((i + 1, x2, ws.set kf X)) (by (repeat' (first | exact envSub.nil | refine envSub.cons ?_ ?_)) <;> first | rfl | (refine congrArg some ?_; refine congrArg (Value.int _) ?_; first | omega | (dsimp only; omega)) | (simp; done) | (refine congrArg some ?_; dsimp only; congr 1; omega) | (simp; omega)) ⟨M.sel (by first | ((repeat (first | with_reducible exact Sel.refl | with_reducible exact Sel.nil | with_reducible exact Del.here | with_reducible apply Del.there | with_reducible apply Sel.cons | with_reducible apply Sel.drop)); done) | (repeat (first | exact Sel.refl | exact Sel.nil | exact Del.here | apply Del.there | apply Sel.cons | apply Sel.drop))), ⟨by dsimp only; omega, ho2, hW2, by dsimp only; omega⟩⟩ (by first | omega | (dsimp only; omega))
      · (try simp only [Bool.not_eq_true'] at c3); (try simp only [Bool.not_eq_false'] at c3); (try simp only [decide_eq_true_eq] at c3); (try simp only [decide_eq_false_iff_not] at c3)
        refine W.skip ?_
        refine WX.next ?_
        refine W.seq ?_
        refine W.region ?_
        refine WL.move rfl rfl ?_
        refine WL.call Try.call13 rfl (Pop2_ok x hxo w0 w _ M) rfl ?_
        rintro _ w ⟨x3, ⟨jf, jc, ji⟩, rfl, hg3, ho3, M, hz3, hp3⟩
        rw [hg3]
        unfold JX.v
        refine WL.move rfl rfl ?_
        refine WL.extractL rfl rfl rfl ?_
        refine WL.extractL rfl rfl rfl ?_
        refine WL.alloc Try.zeroValue31 M rfl ?_
        intro g15_5 w M
        try simp only [Value.cells] at M
        try simp only [List.toList_toArray] at M
        refine WL.storeWA Try.sizeOf31 rfl rfl (by repeat (first | exact oneNil | refine oneCons rfl ?_)) rfl rfl M (by first | ((repeat (first | with_reducible exact Upd.here | with_reducible apply Upd.there)); done) | (repeat (first | exact Upd.here | apply Upd.there))) ?_
        intro w M
        refine WL.assign rfl rfl ?_
        refine WL.nil ?_
        refine WX.next ?_
        refine W.sub [(1, _), (5, _), (6, _), (7, _), (8, _), (9, _), (11, _), (12, _)] (.cons rfl (.cons rfl (.cons rfl (.cons rfl (.cons rfl (.cons rfl (.cons rfl (.cons rfl .nil)))))))) ?_
        refine W.seq ?_
        refine W.seq ?_
        refine W.region ?_
        refine WL.move rfl rfl ?_
        refine WL.move rfl rfl ?_
        refine WL.gtr rfl rfl rfl ?_
        refine WL.neqBB Try.underlying4 rfl rfl rfl ?_
        refine WL.nil ?_
        refine WX.next ?_
        refine W.sub [(1, _), (5, _), (6, _), (7, _), (8, _), (9, _), (11, _), (12, _), (69, _)] (.cons rfl (.cons rfl (.cons rfl (.cons rfl (.cons rfl (.cons rfl (.cons rfl (.cons rfl (.cons rfl .nil))))))))) ?_
        refine W.cond rfl (fun c5 => ?_) (fun c5 => ?_)
        · (try simp only [Bool.not_eq_true'] at c5); (try simp only [Bool.not_eq_false'] at c5); (try simp only [decide_eq_true_eq] at c5); (try simp only [decide_eq_false_iff_not] at c5)
          exact absurd (decide_eq_decide.2 (by omega)) c5
        · (try simp only [Bool.not_eq_true'] at c5); (try simp only [Bool.not_eq_false'] at c5); (try simp only [decide_eq_true_eq] at c5); (try simp only [decide_eq_false_iff_not] at c5)
          refine W.skip ?_
          refine WX.next ?_
          refine W.seq ?_
          refine W.region ?_
          refine WL.move rfl rfl ?_
          refine WL.nil ?_
          refine WX.next ?_
          refine W.sub [(1, _), (5, _), (6, _), (7, _), (8, _), (9, _), (11, _), (70, _)] (.cons rfl (.cons rfl (.cons rfl (.cons rfl (.cons rfl (.cons rfl (.cons rfl (.cons rfl .nil)))))))) ?_
          refine W.cond rfl (fun c6 => ?_) (fun c6 => ?_)
          · (try simp only [Bool.not_eq_true'] at c6); (try simp only [Bool.not_eq_false'] at c6); (try simp only [decide_eq_true_eq] at c6); (try simp only [decide_eq_false_iff_not] at c6)
            have hn0 : nJ x.s.fl ≠ 0 := by simpa using c6
            obtain ⟨hJ, hs3⟩ := hp3 hn0
            obtain ⟨k, js, hp⟩ := pop_says hxo.s hn0
            have hjf : jf = (k : Int) := by have := hp.flow; rw [← hJ] at this; exact this
            subst hjf
            have hk : k < sh.length := by rw [← hW.len]; exact hp.lt
            have hwj := hW.same k hk
            rw [hp.was] at hwj
            have hwl1 : (el ws k).l.length = js.length + 1 := by rw [hwj]; rfl
            have hwl0 : el (el ws k).l 0 = popJ x.s := by rw [hwj]; rfl
            have hWk := hW.ok k (by omega)
            refine W.seq ?_
            refine W.seq ?_
            refine W.drawM (_) (by kernel_rfl) (fun j => [6, 7, 19, 20, 21, 22, 23, 24, 25].contains j) M Sel.refl ?_
            clear M; intro M
            apply DG.pure_ [0] 27 rfl (by kernel_rfl) (by kernel_rfl)
            · intro w
              refine WL.fieldR (off := 0) Try.underlying31 rfl rfl Try.sizeOf3 rfl rfl rfl ?_
              exact Chain.end_ rfl
            apply DG.take [1, 2] 25 rfl (by kernel_rfl) (by kernel_rfl) (M.sel (by first | ((repeat (first | with_reducible exact Sel.refl | with_reducible exact Sel.nil | with_reducible exact Del.here | with_reducible apply Del.there | with_reducible apply Sel.cons | with_reducible apply Sel.drop)); done) | (repeat (first | exact Sel.refl | exact Sel.nil | exact Del.here | apply Del.there | apply Sel.cons | apply Sel.drop))))
            · intro w M
              refine WL.loadR Try.isAgg3 rfl M (by first | ((repeat (first | with_reducible exact Has.here | with_reducible refine Has.there ?_)); done) | (repeat (first | exact Has.here | refine Has.there ?_))) rfl rfl ?_
              refine WL.lss rfl rfl rfl ?_
              exact Chain.end_ rfl
            refine DG.knowP (t := 73) rfl (fun c7 => ?_) (fun c7 => ?_)
            · exact absurd c7 (by dsimp only; omega)
            · apply DG.pure_ [3, 4] 23 rfl (by kernel_rfl) (by kernel_rfl)
              · intro w
                refine WL.move rfl rfl ?_
                refine WL.on rfl rfl ?_
                refine WL.fieldR (off := 0) Try.underlying31 rfl rfl Try.sizeOf3 rfl rfl rfl ?_
                exact Chain.end_ rfl
              apply DG.take [5, 6, 7, 8, 9] 18 rfl (by kernel_rfl) (by kernel_rfl) (M.sel (by first | ((repeat (first | with_reducible exact Sel.refl | with_reducible exact Sel.nil | with_reducible exact Del.here | with_reducible apply Del.there | with_reducible apply Sel.cons | with_reducible apply Sel.drop)); done) | (repeat (first | exact Sel.refl | exact Sel.nil | exact Del.here | apply Del.there | apply Sel.cons | apply Sel.drop))))
              · intro w M
                refine WL.on rfl rfl ?_
                refine WL.loadR Try.isAgg3 rfl M (by first | ((repeat (first | with_reducible exact Has.here | with_reducible refine Has.there ?_)); done) | (repeat (first | exact Has.here | refine Has.there ?_))) rfl rfl ?_
                refine WL.on rfl rfl ?_
                refine WL.move rfl rfl ?_
                refine WL.on rfl rfl ?_
                refine WL.len Try.underlying22 rfl rfl ?_
                refine WL.on rfl rfl ?_
                refine WL.geq rfl rfl rfl ?_
                refine WL.pickF rfl rfl rfl ?_
                exact Chain.end_ rfl
              refine DG.knowP (t := 80) rfl (fun c8 => ?_) (fun c8 => ?_)
              · exact absurd c8 (by dsimp only; omega)
              · apply DG.pure_ [10, 11] 16 rfl (by kernel_rfl) (by kernel_rfl)
                · intro w
                  refine WL.move rfl rfl ?_
                  refine WL.on rfl rfl ?_
                  refine WL.fieldR (off := 0) Try.underlying31 rfl rfl Try.sizeOf3 rfl rfl rfl ?_
                  exact Chain.end_ rfl
                apply DG.take [12, 13, 14, 15, 16, 17] 10 rfl (by kernel_rfl) (by kernel_rfl) (M.sel (by first | ((repeat (first | with_reducible exact Sel.refl | with_reducible exact Sel.nil | with_reducible exact Del.here | with_reducible apply Del.there | with_reducible apply Sel.cons | with_reducible apply Sel.drop)); done) | (repeat (first | exact Sel.refl | exact Sel.nil | exact Del.here | apply Del.there | apply Sel.cons | apply Sel.drop))))
                · intro w M
                  refine WL.on rfl rfl ?_
                  refine WL.loadR Try.isAgg3 rfl M (by first | ((repeat (first | with_reducible exact Has.here | with_reducible refine Has.there ?_)); done) | (repeat (first | exact Has.here | refine Has.there ?_))) rfl rfl ?_
                  refine WL.on rfl rfl ?_
                  refine WL.idxArr Try.underlying28 Try.sizeOf27 rfl rfl (by omega) (by omega) (by first | exact rfl | exact (Int.toNat_of_nonneg (by omega)).symm) rfl ?_
                  refine WL.on rfl rfl ?_
                  refine WL.loadE0 (E := waitE) (A := some ⟨g4_0, 0, none⟩) (j := k) Try.isAgg27 rfl (by first | with_reducible assumption | with_reducible exact RdL.mem (by with_reducible assumption) M | exact M.rdL (by first | ((repeat (first | with_reducible exact Has.here | with_reducible refine Has.there ?_)); done) | (repeat (first | exact Has.here | refine Has.there ?_))) | exact RdLH.at (by assumption) (M.sel (by first | ((repeat (first | with_reducible exact Sel.refl | with_reducible exact Sel.nil | with_reducible exact Del.here | with_reducible apply Del.there | with_reducible apply Sel.cons | with_reducible apply Sel.drop)); done) | (repeat (first | exact Sel.refl | exact Sel.nil | exact Del.here | apply Del.there | apply Sel.cons | apply Sel.drop)))) | exact RdL.nil _ _ _) (by omega) rfl rfl ?_
                  refine WL.on rfl rfl ?_
                  refine WL.len Try.underlying27 rfl rfl ?_
                  refine WL.on rfl rfl ?_
                  refine WL.eqI rfl rfl rfl ?_
                  refine WL.pickF rfl rfl rfl ?_
                  exact Chain.end_ rfl
                refine DG.knowP (t := 88) rfl (fun c9 => ?_) (fun c9 => ?_)
                · exact absurd c9 (by omega)
                · apply DG.pure_ [18] 9 rfl (by kernel_rfl) (by kernel_rfl)
                  · intro w
                    refine WL.move rfl rfl ?_
                    exact Chain.end_ rfl
                  apply DG.take [19, 20, 21, 22, 23, 24, 25, 26, 27] 0 rfl (by kernel_rfl) (by kernel_rfl) (M.sel (by first | ((repeat (first | with_reducible exact Sel.refl | with_reducible exact Sel.nil | with_reducible exact Del.here | with_reducible apply Del.there | with_reducible apply Sel.cons | with_reducible apply Sel.drop)); done) | (repeat (first | exact Sel.refl | exact Sel.nil | exact Del.here | apply Del.there | apply Sel.cons | apply Sel.drop))))
                  · intro w M
                    refine WL.on rfl rfl ?_
                    refine WL.fieldR (off := 0) Try.underlying31 rfl rfl Try.sizeOf3 rfl rfl rfl ?_
                    refine WL.on rfl rfl ?_
                    refine WL.loadR Try.isAgg3 rfl M (by first | ((repeat (first | with_reducible exact Has.here | with_reducible refine Has.there ?_)); done) | (repeat (first | exact Has.here | refine Has.there ?_))) rfl rfl ?_
                    refine WL.on rfl rfl ?_
                    refine WL.idxArr Try.underlying28 Try.sizeOf27 rfl rfl (by omega) (by omega) (by first | exact rfl | exact (Int.toNat_of_nonneg (by omega)).symm) rfl ?_
                    refine WL.on rfl rfl ?_
                    refine WL.loadE0 (E := waitE) (A := some ⟨g4_0, 0, none⟩) (j := k) Try.isAgg27 rfl (by first | with_reducible assumption | with_reducible exact RdL.mem (by with_reducible assumption) M | exact M.rdL (by first | ((repeat (first | with_reducible exact Has.here | with_reducible refine Has.there ?_)); done) | (repeat (first | exact Has.here | refine Has.there ?_))) | exact RdLH.at (by assumption) (M.sel (by first | ((repeat (first | with_reducible exact Sel.refl | with_reducible exact Sel.nil | with_reducible exact Del.here | with_reducible apply Del.there | with_reducible apply Sel.cons | with_reducible apply Sel.drop)); done) | (repeat (first | exact Sel.refl | exact Sel.nil | exact Del.here | apply Del.there | apply Sel.cons | apply Sel.drop)))) | exact RdL.nil _ _ _) (by omega) rfl rfl ?_
                    refine WL.on rfl rfl ?_
                    refine WL.idxA (jn := 0) Try.underlying27 Try.sizeOf31 rfl rfl (RdL.isSome (E := jobE) (WaX.rd hWk (M.starHas (f := WaX.O) (by first | ((repeat (first | with_reducible exact Has.here | with_reducible refine Has.there ?_)); done) | (repeat (first | exact Has.here | refine Has.there ?_))) (el_mem (by omega)))) (by omega)) (by omega) (by omega) (by first | exact rfl | exact (Int.toNat_of_nonneg (by omega)).symm) rfl ?_
                    refine WL.on rfl rfl ?_
                    refine WL.loadL (E := jobE) (cs := [_, _, _]) Try.isAgg31 Try.sizeOf31 rfl (WaX.rd hWk (M.starHas (f := WaX.O) (by first | ((repeat (first | with_reducible exact Has.here | with_reducible refine Has.there ?_)); done) | (repeat (first | exact Has.here | refine Has.there ?_))) (el_mem (by omega)))) rfl (by omega) rfl rfl ?_
                    refine WL.on rfl rfl ?_
                    refine WL.loadW Try.isAgg31 Try.sizeOf31 rfl M (by first | ((repeat (first | with_reducible exact Has.here | with_reducible refine Has.there ?_)); done) | (repeat (first | exact Has.here | refine Has.there ?_))) rfl rfl ?_
                    refine WL.on rfl rfl ?_
                    refine WL.neqJ (el (el ws k).l 0) ⟨(k : Int), jc, ji⟩ rfl rfl rfl ?_
                    refine WL.pickF rfl rfl rfl ?_
                    exact Chain.end_ rfl
                  refine DG.end_ (by kernel_rfl) ?_
                  refine WX.next ?_
                  refine W.sub [(1, _), (5, _), (6, _), (7, _), (8, _), (9, _), (11, _), (98, _)] (.cons rfl (.cons rfl (.cons rfl (.cons rfl (.cons rfl (.cons rfl (.cons rfl (.cons rfl .nil)))))))) ?_
                  refine W.cond rfl (fun c10 => ?_) (fun c10 => ?_)
                  · (try simp only [Bool.not_eq_true'] at c10); (try simp only [Bool.not_eq_false'] at c10); (try simp only [decide_eq_true_eq] at c10); (try simp only [decide_eq_false_iff_not] at c10)
                    exact absurd (hwl0.trans hJ.symm) c10
                  · (try simp only [Bool.not_eq_true'] at c10); (try simp only [Bool.not_eq_false'] at c10); (try simp only [decide_eq_true_eq] at c10); (try simp only [decide_eq_false_iff_not] at c10)
                    refine W.skip ?_
                    refine WX.next ?_
                    refine W.seq ?_
                    refine W.drawM (_) (by kernel_rfl) (fun j => [1, 3, 4, 5, 6].contains j) M Sel.refl ?_
                    clear M; intro M
                    apply DG.pure_ [0, 2] 7 rfl (by kernel_rfl) (by kernel_rfl)
                    · intro w
                      refine WL.fieldR (off := 0) Try.underlying31 rfl rfl Try.sizeOf3 rfl rfl rfl ?_
                      refine WL.fieldR (off := 0) Try.underlying31 rfl rfl Try.sizeOf3 rfl rfl rfl ?_
                      exact Chain.end_ rfl
                    apply DG.take [1, 3, 4, 5, 6, 7] 1 rfl (by kernel_rfl) (by kernel_rfl) (M.sel (by first | ((repeat (first | with_reducible exact Sel.refl | with_reducible exact Sel.nil | with_reducible exact Del.here | with_reducible apply Del.there | with_reducible apply Sel.cons | with_reducible apply Sel.drop)); done) | (repeat (first | exact Sel.refl | exact Sel.nil | exact Del.here | apply Del.there | apply Sel.cons | apply Sel.drop))))
                    · intro w M
                      refine WL.loadR Try.isAgg3 rfl M (by first | ((repeat (first | with_reducible exact Has.here | with_reducible refine Has.there ?_)); done) | (repeat (first | exact Has.here | refine Has.there ?_))) rfl rfl ?_
                      refine WL.loadR Try.isAgg3 rfl M (by first | ((repeat (first | with_reducible exact Has.here | with_reducible refine Has.there ?_)); done) | (repeat (first | exact Has.here | refine Has.there ?_))) rfl rfl ?_
                      refine WL.idxArr Try.underlying28 Try.sizeOf27 rfl rfl (by omega) (by omega) (by first | exact rfl | exact (Int.toNat_of_nonneg (by omega)).symm) rfl ?_
                      refine WL.loadE0 (E := waitE) (A := some ⟨g4_0, 0, none⟩) (j := k) Try.isAgg27 rfl (by first | with_reducible assumption | with_reducible exact RdL.mem (by with_reducible assumption) M | exact M.rdL (by first | ((repeat (first | with_reducible exact Has.here | with_reducible refine Has.there ?_)); done) | (repeat (first | exact Has.here | refine Has.there ?_))) | exact RdLH.at (by assumption) (M.sel (by first | ((repeat (first | with_reducible exact Sel.refl | with_reducible exact Sel.nil | with_reducible exact Del.here | with_reducible apply Del.there | with_reducible apply Sel.cons | with_reducible apply Sel.drop)); done) | (repeat (first | exact Sel.refl | exact Sel.nil | exact Del.here | apply Del.there | apply Sel.cons | apply Sel.drop)))) | exact RdL.nil _ _ _) (by omega) rfl rfl ?_
                      refine WL.cutL (m' := (js).length) Try.underlying27 Try.sizeOf31 rfl rfl (by omega) (by omega) (by first | exact rfl | exact (Int.toNat_of_nonneg (by omega)).symm) (by show (el ws k).l.length - 1 = js.length; omega) rfl ?_
                      refine WL.idxArr Try.underlying28 Try.sizeOf27 rfl rfl (by omega) (by omega) (by first | exact rfl | exact (Int.toNat_of_nonneg (by omega)).symm) rfl ?_
                      exact Chain.end_ rfl
                    refine DG.step 8 0 rfl (by kernel_rfl) ?_
                    refine WL.storeE0 (E := waitE) (A := some ⟨g4_0, 0, none⟩) (j := k) (x' := ⟨(el ws k).B, (el ws k).cap0, (el ws k).pre ++ [popJ x.s], cutA (el ws k).p 1 3 (el ws k).c, (el ws k).c - 1, js⟩) Try.sizeOf27 rfl rfl rfl M (by first | ((repeat (first | with_reducible exact Has.here | with_reducible refine Has.there ?_)); done) | (repeat (first | exact Has.here | refine Has.there ?_))) (by omega) (by repeat (first | exact SetAt.zero | apply SetAt.succ)) (by first | ((repeat (first | with_reducible exact Upd.here | with_reducible apply Upd.there)); done) | (repeat (first | exact Upd.here | apply Upd.there))) ?_
                    intro w M
                    refine DG.go (G := fun j => [1, 3, 4, 5, 6].contains j) (i := 8) (f' := 0) (done := [0, 2, 1, 3, 4, 5, 6, 7]) (fun h => by cases h) ?_
                    refine DG.end_ (by kernel_rfl) ?_
                    refine WX.next ?_
                    refine W.sub [(1, _), (5, _), (6, _), (7, _), (8, _), (9, _)] (.cons rfl (.cons rfl (.cons rfl (.cons rfl (.cons rfl (.cons rfl .nil)))))) ?_
                    have hcut := WaX.cut hWk hwj
                    have hW3 := hW.pop hp hcut.1 rfl
                    have hst := map_set_O ws k _ (by omega) hcut.2
                    have hnJ3 := pop_n' hxo.s hn0
                    rw [← hs3] at hW3 hnJ3
                    refine W.region ?_
                    refine WL.move rfl rfl ?_
                    refine WL.sub' rfl rfl (show IntKind.i64.wrap ((nJ x.s.fl : Int) - 1) = (nJ x3.s.fl : Int) by rw [wI64 (by omega)]; omega) rfl ?_
                    refine WL.assign rfl rfl ?_
                    refine WL.nil ?_
                    refine WX.blockNormal ?_
                    refine WX.next ?_
                    refine W.sub [(1, _), (5, _), (6, _), (7, _), (8, _), (9, _)] (.cons rfl (.cons rfl (.cons rfl (.cons rfl (.cons rfl (.cons rfl .nil)))))) ?_
                    refine W.region ?_
                    refine WL.move rfl rfl ?_
                    refine WL.add rfl rfl (by first | exact wI64 (by omega) | rfl) rfl ?_
                    refine WL.assign rfl rfl ?_
                    refine WL.nil ?_
                    skip
                    rw [← hst] at M
                    refine WX.round ((i + 1, x3, ws.set k ⟨(el ws k).B, (el ws k).cap0, (el ws k).pre ++ [popJ x.s], cutA (el ws k).p 1 3 (el ws k).c, (el ws k).c - 1, js⟩)) (by (repeat' (first | exact envSub.nil | refine envSub.cons ?_ ?_)) <;> first | rfl | (refine congrArg some ?_; refine congrArg (Value.int _) ?_; first | omega | (dsimp only; omega)) | (simp; done) | (refine congrArg some ?_; dsimp only; congr 1; omega) | (simp; omega)) ⟨M.sel (by first | ((repeat (first | with_reducible exact Sel.refl | with_reducible exact Sel.nil | with_reducible exact Del.here | with_reducible apply Del.there | with_reducible apply Sel.cons | with_reducible apply Sel.drop)); done) | (repeat (first | exact Sel.refl | exact Sel.nil | exact Del.here | apply Del.there | apply Sel.cons | apply Sel.drop))), ⟨by dsimp only; omega, ho3, hW3, by dsimp only; omega⟩⟩ (by first | omega | (dsimp only; omega))
          · (try simp only [Bool.not_eq_true'] at c6); (try simp only [Bool.not_eq_false'] at c6); (try simp only [decide_eq_true_eq] at c6); (try simp only [decide_eq_false_iff_not] at c6)
            have hn0 : nJ x.s.fl = 0 := by simpa using c6
            have hs3 := hz3 hn0
            rw [← hs3] at hW hnJ hn0
            refine W.skip ?_
            refine WX.blockNormal ?_
            refine WX.next ?_
            refine W.region ?_
            refine WL.move rfl rfl ?_
            refine WL.add rfl rfl (by first | exact wI64 (by omega) | rfl) rfl ?_
            refine WL.assign rfl rfl ?_
            refine WL.nil ?_
            rw [← hs3]
            refine WX.round ((i + 1, x3, ws)) (by (repeat' (first | exact envSub.nil | refine envSub.cons ?_ ?_)) <;> first | rfl | (refine congrArg some ?_; refine congrArg (Value.int _) ?_; first | omega | (dsimp only; omega)) | (simp; done) | (refine congrArg some ?_; dsimp only; congr 1; omega) | (simp; omega)) ⟨M.sel (by first | ((repeat (first | with_reducible exact Sel.refl | with_reducible exact Sel.nil | with_reducible exact Del.here | with_reducible apply Del.there | with_reducible apply Sel.cons | with_reducible apply Sel.drop)); done) | (repeat (first | exact Sel.refl | exact Sel.nil | exact Del.here | apply Del.there | apply Sel.cons | apply Sel.drop))), ⟨by dsimp only; omega, ho3, hW, by dsimp only; omega⟩⟩ (by first | omega | (dsimp only; omega))
    · refine W.exit ?_
      refine WX.thenExit ?_
      refine WX.thenExit ?_
      refine WX.blockHere ?_
      refine WX.next ?_
      refine W.seq ?_
      refine W.seq ?_
      refine W.region ?_
      refine WL.assign rfl rfl ?_
      refine WL.nil ?_
      refine WX.next ?_
      refine W.sub [(5, _), (6, _), (7, _), (13, _)] (.cons rfl (.cons rfl (.cons rfl (.cons rfl .nil)))) ?_
      refine W.block ?_
      refine W.loop (ι := Nat) (fun k => [(5, .pointer (some ⟨x.g, 0, none⟩)), (6, .slice B sh.length cB), (7, .pointer (some ⟨g4_0, 0, none⟩)), (13, .int .i64 (k : Int))]) (fun zz w => Mem w0 w ((fun _ => x.L ++ [Asr.lst intE B cB sh, Asr.lst waitE (some ⟨g4_0, 0, none⟩) 8 ws, Asr.star (ws.map WaX.O)]) zz) ∧ (fun k => k ≤ sh.length) zz) (fun k => sh.length - k) (0) (by (repeat' (first | exact envSub.nil | refine envSub.cons ?_ ?_)) <;> first | rfl | (refine congrArg some ?_; refine congrArg (Value.int _) ?_; first | omega | (dsimp only; omega)) | (simp; done) | (refine congrArg some ?_; dsimp only; congr 1; omega) | (simp; omega)) ⟨M.sel (by first | ((repeat (first | with_reducible exact Sel.refl | with_reducible exact Sel.nil | with_reducible exact Del.here | with_reducible apply Del.there | with_reducible apply Sel.cons | with_reducible apply Sel.drop)); done) | (repeat (first | exact Sel.refl | exact Sel.nil | exact Del.here | apply Del.there | apply Sel.cons | apply Sel.drop))), Nat.zero_le _⟩ ?_
      clear M; rintro (k) w ⟨M, hk⟩; dsimp only at M hk ⊢
      refine W.sub [(5, _), (6, _), (7, _), (13, _)] (.cons rfl (.cons rfl (.cons rfl (.cons rfl .nil)))) ?_
      refine W.seq ?_
      refine W.seq ?_
      refine W.region ?_
      refine WL.move rfl rfl ?_
      refine WL.move rfl rfl ?_
      refine WL.len Try.underlying22 rfl rfl ?_
      refine WL.lss rfl rfl rfl ?_
      refine WL.nil ?_
      refine WX.next ?_
      refine W.sub [(5, _), (6, _), (7, _), (13, _), (112, _)] (.cons rfl (.cons rfl (.cons rfl (.cons rfl (.cons rfl .nil))))) ?_
      refine W.ite rfl (fun c11 => ?_) (fun c11 => ?_)
      · have hwl := hW.wl
        have hle := hW.le
        have hfl : x.fw.length = sh.length := by
          have h1 : x.s.fl.length = x.fw.length := by simp [SdX.s]
          rw [← h1, hW.len]
        have hsame := hW.same k (by omega)
        have hfj : (el x.fw k).jobs = (el x.s.fl k).jobs := by
          have e := el_key x.fw k (by omega)
          have e2 : x.s.fl = x.fw.map FwX.key := rfl
          rw [e2, e]
          rfl
        refine W.skip ?_
        refine WX.next ?_
        refine W.seq ?_
        refine W.block ?_
        refine W.seq ?_
        refine W.drawM ([Asr.lst waitE (some ⟨g4_0, 0, none⟩) 8 ws]) (by kernel_rfl) (fun j => [2].contains j) M (by first | ((repeat (first | with_reducible exact Sel.refl | with_reducible exact Sel.nil | with_reducible exact Del.here | with_reducible apply Del.there | with_reducible apply Sel.cons | with_reducible apply Sel.drop)); done) | (repeat (first | exact Sel.refl | exact Sel.nil | exact Del.here | apply Del.there | apply Sel.cons | apply Sel.drop))) ?_
        clear M; intro M
        apply DG.pure_ [0, 1, 3, 4] 4 rfl (by kernel_rfl) (by kernel_rfl)
        · intro w
          refine WL.move rfl rfl ?_
          refine WL.move rfl rfl ?_
          refine WL.move rfl rfl ?_
          refine WL.idxArr Try.underlying28 Try.sizeOf27 rfl rfl (by omega) (by omega) (by first | exact rfl | exact (Int.toNat_of_nonneg (by omega)).symm) rfl ?_
          exact Chain.end_ rfl
        apply DG.take [5, 6] 2 rfl (by kernel_rfl) (by kernel_rfl) (M.sel (by first | ((repeat (first | with_reducible exact Sel.refl | with_reducible exact Sel.nil | with_reducible exact Del.here | with_reducible apply Del.there | with_reducible apply Sel.cons | with_reducible apply Sel.drop)); done) | (repeat (first | exact Sel.refl | exact Sel.nil | exact Del.here | apply Del.there | apply Sel.cons | apply Sel.drop))))
        · intro w M
          refine WL.loadE0 (E := waitE) (A := some ⟨g4_0, 0, none⟩) (j := k) Try.isAgg27 rfl (by first | with_reducible assumption | with_reducible exact RdL.mem (by with_reducible assumption) M | exact M.rdL (by first | ((repeat (first | with_reducible exact Has.here | with_reducible refine Has.there ?_)); done) | (repeat (first | exact Has.here | refine Has.there ?_))) | exact RdLH.at (by assumption) (M.sel (by first | ((repeat (first | with_reducible exact Sel.refl | with_reducible exact Sel.nil | with_reducible exact Del.here | with_reducible apply Del.there | with_reducible apply Sel.cons | with_reducible apply Sel.drop)); done) | (repeat (first | exact Sel.refl | exact Sel.nil | exact Del.here | apply Del.there | apply Sel.cons | apply Sel.drop)))) | exact RdL.nil _ _ _) (by omega) rfl rfl ?_
          refine WL.len Try.underlying27 rfl rfl ?_
          exact Chain.end_ rfl
        refine DG.step 2 1 rfl (by kernel_rfl) ?_
        refine WL.call Try.call22 rfl (Len_ok x (by omega) k (by omega) w0 _ _ (M.sel (K := x.L ++ []) (by first | ((repeat (first | with_reducible exact Sel.refl | with_reducible exact Sel.nil | with_reducible exact Del.here | with_reducible apply Del.there | with_reducible apply Sel.cons | with_reducible apply Sel.drop)); done) | (repeat (first | exact Sel.refl | exact Sel.nil | exact Del.here | apply Del.there | apply Sel.cons | apply Sel.drop))))) rfl ?_
        rintro _ _ ⟨rfl, rfl⟩
        refine DG.go (G := fun j => [2].contains j) (i := 2) (f' := 1) (done := [0, 1, 3, 4, 5, 6]) (fun _ => M.sel (by first | ((repeat (first | with_reducible exact Sel.refl | with_reducible exact Sel.nil | with_reducible exact Del.here | with_reducible apply Del.there | with_reducible apply Sel.cons | with_reducible apply Sel.drop)); done) | (repeat (first | exact Sel.refl | exact Sel.nil | exact Del.here | apply Del.there | apply Sel.cons | apply Sel.drop)))) ?_
        apply DG.pure_ [7] 0 rfl (by kernel_rfl) (by kernel_rfl)
        · intro w
          refine WL.neI rfl rfl rfl ?_
          exact Chain.end_ rfl
        refine DG.end_ (by kernel_rfl) ?_
        refine WX.next ?_
        refine W.sub [(5, _), (6, _), (7, _), (13, _), (122, _)] (.cons rfl (.cons rfl (.cons rfl (.cons rfl (.cons rfl .nil))))) ?_
        refine W.ite rfl (fun c12 => ?_) (fun c12 => ?_)
        · exact absurd (by rw [hsame, hfj]) c12
        · refine W.skip ?_
          refine WX.blockNormal ?_
          refine WX.next ?_
          refine W.region ?_
          refine WL.move rfl rfl ?_
          refine WL.add rfl rfl (by first | exact wI64 (by omega) | rfl) rfl ?_
          refine WL.assign rfl rfl ?_
          refine WL.nil ?_
          refine WX.round (k + 1) (by (repeat' (first | exact envSub.nil | refine envSub.cons ?_ ?_)) <;> first | rfl | (refine congrArg some ?_; refine congrArg (Value.int _) ?_; first | omega | (dsimp only; omega)) | (simp; done) | (refine congrArg some ?_; dsimp only; congr 1; omega) | (simp; omega)) ⟨M.sel (by first | ((repeat (first | with_reducible exact Sel.refl | with_reducible exact Sel.nil | with_reducible exact Del.here | with_reducible apply Del.there | with_reducible apply Sel.cons | with_reducible apply Sel.drop)); done) | (repeat (first | exact Sel.refl | exact Sel.nil | exact Del.here | apply Del.there | apply Sel.cons | apply Sel.drop))), by omega⟩ (by first | omega | (dsimp only; omega))
      · refine W.exit ?_
        refine WX.thenExit ?_
        refine WX.thenExit ?_
        refine WX.blockHere ?_
        refine WX.next ?_
        refine W.seq ?_
        refine W.region ?_
        refine WL.call Try.call16 rfl (known21_ok _) rfl ?_
        rintro _ w ⟨rfl, m⟩
        replace M := M.call0 m; clear m
        refine WL.assign rfl rfl ?_
        refine WL.nil ?_
        refine WX.next ?_
        refine W.sub [(4, _)] (.cons rfl .nil) ?_
        refine W.ret ?_
        refine WX.ret1 rfl rfl ?_
        exact ⟨rfl, M.sel (by first | ((repeat (first | with_reducible exact Sel.refl | with_reducible exact Sel.nil | with_reducible exact Del.here | with_reducible apply Del.there | with_reducible apply Sel.cons | with_reducible apply Sel.drop)); done) | (repeat (first | exact Sel.refl | exact Sel.nil | exact Del.here | apply Del.there | apply Sel.cons | apply Sel.drop)))⟩
  · refine WL.off rfl rfl rfl rfl ?_
    refine WL.off rfl rfl rfl rfl ?_
    refine WL.pickF rfl rfl rfl ?_
    refine WL.nil ?_
    refine WX.next ?_
    refine W.sub [(1, _), (5, _), (6, _), (7, _), (8, _), (9, _), (28, _)] (.cons rfl (.cons rfl (.cons rfl (.cons rfl (.cons rfl (.cons rfl (.cons rfl .nil))))))) ?_
    refine W.condF rfl ?_
    refine W.exit ?_
    refine WX.thenExit ?_
    refine WX.thenExit ?_
    refine WX.blockHere ?_
    refine WX.next ?_
    refine W.seq ?_
    refine W.seq ?_
    refine W.region ?_
    refine WL.assign rfl rfl ?_
    refine WL.nil ?_
    refine WX.next ?_
    refine W.sub [(5, _), (6, _), (7, _), (13, _)] (.cons rfl (.cons rfl (.cons rfl (.cons rfl .nil)))) ?_
    refine W.block ?_
    refine W.loop (ι := Nat) (fun k => [(5, .pointer (some ⟨x.g, 0, none⟩)), (6, .slice B sh.length cB), (7, .pointer (some ⟨g4_0, 0, none⟩)), (13, .int .i64 (k : Int))]) (fun zz w => Mem w0 w ((fun _ => x.L ++ [Asr.lst intE B cB sh, Asr.lst waitE (some ⟨g4_0, 0, none⟩) 8 ws, Asr.star (ws.map WaX.O)]) zz) ∧ (fun k => k ≤ sh.length) zz) (fun k => sh.length - k) (0) (by (repeat' (first | exact envSub.nil | refine envSub.cons ?_ ?_)) <;> first | rfl | (refine congrArg some ?_; refine congrArg (Value.int _) ?_; first | omega | (dsimp only; omega)) | (simp; done) | (refine congrArg some ?_; dsimp only; congr 1; omega) | (simp; omega)) ⟨M.sel (by first | ((repeat (first | with_reducible exact Sel.refl | with_reducible exact Sel.nil | with_reducible exact Del.here | with_reducible apply Del.there | with_reducible apply Sel.cons | with_reducible apply Sel.drop)); done) | (repeat (first | exact Sel.refl | exact Sel.nil | exact Del.here | apply Del.there | apply Sel.cons | apply Sel.drop))), Nat.zero_le _⟩ ?_
    clear M; rintro (k) w ⟨M, hk⟩; dsimp only at M hk ⊢
    refine W.sub [(5, _), (6, _), (7, _), (13, _)] (.cons rfl (.cons rfl (.cons rfl (.cons rfl .nil)))) ?_
    refine W.seq ?_
    refine W.seq ?_
    refine W.region ?_
    refine WL.move rfl rfl ?_
    refine WL.move rfl rfl ?_
    refine WL.len Try.underlying22 rfl rfl ?_
    refine WL.lss rfl rfl rfl ?_
    refine WL.nil ?_
    refine WX.next ?_
    refine W.sub [(5, _), (6, _), (7, _), (13, _), (112, _)] (.cons rfl (.cons rfl (.cons rfl (.cons rfl (.cons rfl .nil))))) ?_
    refine W.ite rfl (fun c11 => ?_) (fun c11 => ?_)
    · have hwl := hW.wl
      have hle := hW.le
      have hfl : x.fw.length = sh.length := by
        have h1 : x.s.fl.length = x.fw.length := by simp [SdX.s]
        rw [← h1, hW.len]
      have hsame := hW.same k (by omega)
      have hfj : (el x.fw k).jobs = (el x.s.fl k).jobs := by
        have e := el_key x.fw k (by omega)
        have e2 : x.s.fl = x.fw.map FwX.key := rfl
        rw [e2, e]
        rfl
      refine W.skip ?_
      refine WX.next ?_
      refine W.seq ?_
      refine W.block ?_
      refine W.seq ?_
      refine W.drawM ([Asr.lst waitE (some ⟨g4_0, 0, none⟩) 8 ws]) (by kernel_rfl) (fun j => [2].contains j) M (by first | ((repeat (first | with_reducible exact Sel.refl | with_reducible exact Sel.nil | with_reducible exact Del.here | with_reducible apply Del.there | with_reducible apply Sel.cons | with_reducible apply Sel.drop)); done) | (repeat (first | exact Sel.refl | exact Sel.nil | exact Del.here | apply Del.there | apply Sel.cons | apply Sel.drop))) ?_
      clear M; intro M
      apply DG.pure_ [0, 1, 3, 4] 4 rfl (by kernel_rfl) (by kernel_rfl)
      · intro w
        refine WL.move rfl rfl ?_
        refine WL.move rfl rfl ?_
        refine WL.move rfl rfl ?_
        refine WL.idxArr Try.underlying28 Try.sizeOf27 rfl rfl (by omega) (by omega) (by first | exact rfl | exact (Int.toNat_of_nonneg (by omega)).symm) rfl ?_
        exact Chain.end_ rfl
      apply DG.take [5, 6] 2 rfl (by kernel_rfl) (by kernel_rfl) (M.sel (by first | ((repeat (first | with_reducible exact Sel.refl | with_reducible exact Sel.nil | with_reducible exact Del.here | with_reducible apply Del.there | with_reducible apply Sel.cons | with_reducible apply Sel.drop)); done) | (repeat (first | exact Sel.refl | exact Sel.nil | exact Del.here | apply Del.there | apply Sel.cons | apply Sel.drop))))
      · intro w M
        refine WL.loadE0 (E := waitE) (A := some ⟨g4_0, 0, none⟩) (j := k) Try.isAgg27 rfl (by first | with_reducible assumption | with_reducible exact RdL.mem (by with_reducible assumption) M | exact M.rdL (by first | ((repeat (first | with_reducible exact Has.here | with_reducible refine Has.there ?_)); done) | (repeat (first | exact Has.here | refine Has.there ?_))) | exact RdLH.at (by assumption) (M.sel (by first | ((repeat (first | with_reducible exact Sel.refl | with_reducible exact Sel.nil | with_reducible exact Del.here | with_reducible apply Del.there | with_reducible apply Sel.cons | with_reducible apply Sel.drop)); done) | (repeat (first | exact Sel.refl | exact Sel.nil | exact Del.here | apply Del.there | apply Sel.cons | apply Sel.drop)))) | exact RdL.nil _ _ _) (by omega) rfl rfl ?_
        refine WL.len Try.underlying27 rfl rfl ?_
        exact Chain.end_ rfl
      refine DG.step 2 1 rfl (by kernel_rfl) ?_
      refine WL.call Try.call22 rfl (Len_ok x (by omega) k (by omega) w0 _ _ (M.sel (K := x.L ++ []) (by first | ((repeat (first | with_reducible exact Sel.refl | with_reducible exact Sel.nil | with_reducible exact Del.here | with_reducible apply Del.there | with_reducible apply Sel.cons | with_reducible apply Sel.drop)); done) | (repeat (first | exact Sel.refl | exact Sel.nil | exact Del.here | apply Del.there | apply Sel.cons | apply Sel.drop))))) rfl ?_
      rintro _ _ ⟨rfl, rfl⟩
      refine DG.go (G := fun j => [2].contains j) (i := 2) (f' := 1) (done := [0, 1, 3, 4, 5, 6]) (fun _ => M.sel (by first | ((repeat (first | with_reducible exact Sel.refl | with_reducible exact Sel.nil | with_reducible exact Del.here | with_reducible apply Del.there | with_reducible apply Sel.cons | with_reducible apply Sel.drop)); done) | (repeat (first | exact Sel.refl | exact Sel.nil | exact Del.here | apply Del.there | apply Sel.cons | apply Sel.drop)))) ?_
      apply DG.pure_ [7] 0 rfl (by kernel_rfl) (by kernel_rfl)
      · intro w
        refine WL.neI rfl rfl rfl ?_
        exact Chain.end_ rfl
      refine DG.end_ (by kernel_rfl) ?_
      refine WX.next ?_
      refine W.sub [(5, _), (6, _), (7, _), (13, _), (122, _)] (.cons rfl (.cons rfl (.cons rfl (.cons rfl (.cons rfl .nil))))) ?_
      refine W.ite rfl (fun c12 => ?_) (fun c12 => ?_)
      · exact absurd (by rw [hsame, hfj]) c12
      · refine W.skip ?_
        refine WX.blockNormal ?_
        refine WX.next ?_
        refine W.region ?_
        refine WL.move rfl rfl ?_
        refine WL.add rfl rfl (by first | exact wI64 (by omega) | rfl) rfl ?_
        refine WL.assign rfl rfl ?_
        refine WL.nil ?_
        refine WX.round (k + 1) (by (repeat' (first | exact envSub.nil | refine envSub.cons ?_ ?_)) <;> first | rfl | (refine congrArg some ?_; refine congrArg (Value.int _) ?_; first | omega | (dsimp only; omega)) | (simp; done) | (refine congrArg some ?_; dsimp only; congr 1; omega) | (simp; omega)) ⟨M.sel (by first | ((repeat (first | with_reducible exact Sel.refl | with_reducible exact Sel.nil | with_reducible exact Del.here | with_reducible apply Del.there | with_reducible apply Sel.cons | with_reducible apply Sel.drop)); done) | (repeat (first | exact Sel.refl | exact Sel.nil | exact Del.here | apply Del.there | apply Sel.cons | apply Sel.drop))), by omega⟩ (by first | omega | (dsimp only; omega))
    · refine W.exit ?_
      refine WX.thenExit ?_
      refine WX.thenExit ?_
      refine WX.blockHere ?_
      refine WX.next ?_
      refine W.seq ?_
      refine W.region ?_
      refine WL.call Try.call16 rfl (known21_ok _) rfl ?_
      rintro _ w ⟨rfl, m⟩
      replace M := M.call0 m; clear m
      refine WL.assign rfl rfl ?_
      refine WL.nil ?_
      refine WX.next ?_
      refine W.sub [(4, _)] (.cons rfl .nil) ?_
      refine W.ret ?_
      refine WX.ret1 rfl rfl ?_
      exact ⟨rfl, M.sel (by first | ((repeat (first | with_reducible exact Sel.refl | with_reducible exact Sel.nil | with_reducible exact Del.here | with_reducible apply Del.there | with_reducible apply Sel.cons | with_reducible apply Sel.drop)); done) | (repeat (first | exact Sel.refl | exact Sel.nil | exact Del.here | apply Del.there | apply Sel.cons | apply Sel.drop)))⟩
end Go.Proofs.Ytdhmopmfnnlhcaa
