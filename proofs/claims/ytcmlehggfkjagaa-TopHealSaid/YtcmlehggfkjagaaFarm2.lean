/-
  Walks: a node is gone; all is healed (the farm of seawalltop.TopHeal).
-/
import Derived.Test.YtcmlehggfkjagaaFarm1
namespace Go.Proofs.Ytcmlehggfkjagaa
open Go Go.RowKit Bin

theorem andNot_is : ∀ up : Fin 32, ∀ n : Fin 5, bits .andNot .u32 (up.val : Int) (IntKind.u32.wrap (1 * 2 ^ ((n.val : Int)).toNat)) = ((upGone up.val n.val : Nat) : Int) := by decide +kernel
theorem cells_goneNow {a b : Value} {cp : List UInt8} (n : Nat) : (a :: b :: bs cp).take (2 + n * 24) ++ bs (List.replicate 24 0) ++ (a :: b :: bs cp).drop (2 + n * 24 + 24) = a :: b :: bs (cpGone cp n) := by
  rw [show 2 + n * 24 + 24 = (n * 24 + 24) + 2 by omega, show 2 + n * 24 = n * 24 + 2 by omega]
  simp [cpGone, bs, Nat.mul_comm]
theorem cells_part {a b : Value} {cp : List UInt8} (f c : Nat) : ((a :: b :: bs cp).drop (2 + f * 24 + c * 6)).take 6 = bs ((cp.drop (cAt f c 0)).take 6) := by
  rw [show 2 + f * 24 + c * 6 = cAt f c 0 + 2 by unfold cAt; omega]
  simp [bs]
theorem cells_move {a b : Value} {cp : List UInt8} (f t c : Nat) : (a :: b :: bs cp).take (2 + t * 24 + c * 6) ++ bs ((cp.drop (cAt f c 0)).take 6) ++ (a :: b :: bs cp).drop (2 + t * 24 + c * 6 + 6) = a :: b :: bs (cpMove cp f t c) := by
  rw [show 2 + t * 24 + c * 6 + 6 = (cAt t c 0 + 6) + 2 by unfold cAt; omega, show 2 + t * 24 + c * 6 = cAt t c 0 + 2 by unfold cAt; omega]
  simp [cpMove, bs]
theorem bs_one {l : List UInt8} : ∀ u ∈ bs l, u.oneCell' = true := by
  intro u hu
  unfold bs at hu
  obtain ⟨b, _, rfl⟩ := List.mem_map.1 hu
  rfl
set_option maxHeartbeats 4000000 in
set_option maxRecDepth 10000 in
theorem gone_ok {g up n cap : Nat} {A : Option Addr} {ps : List PlX} {cp : List UInt8} (hup : up < 32) (hn : n < 5) (hps : ps.length = 4) (hnl : ∀ p ∈ ps, p.nodes.length ≤ 5) (hcp : cp.length = 120) (w0 w : World) (L L' : List Asr) (M : Mem w0 w L)
    (hd : Del (Asr.row g 33 (.int .u32 (up : Int) :: .slice A ps.length cap :: bs cp)) L L') (h : ∀ w, Mem w0 w L' → RdP w A cap ps) :
    Fn Try.prog 7 [.pointer (some ⟨g, 0, none⟩), .int .i64 (n : Int)] w fun _ w' => ∃ A2 c2 ps2, List.map PlX.key ps2 = goneP (ps.map PlX.key) (n : Int) ∧ ps2.length = 4 ∧
      Mem w0 w' (Asr.row g 33 (.int .u32 (upGone up n : Int) :: .slice A2 ps2.length c2 :: bs (cpGone cp n)) :: Asr.lst placeE A2 c2 ps2 :: Asr.star (ps2.map PlX.O) :: L') := by
  have M1 := M.del hd
  replace M := M1
  have hall : RdLH w0 L' placeE A cap ps := fun w M => (h w M).all
  have hbit := andNot_is ⟨up, hup⟩ ⟨n, hn⟩
  dsimp only at hbit
  refine Fn.enter Try.func7 rfl Try.ntmps7 rfl ?_
  refine W.sub [(0, _), (1, _)] (.cons rfl (.cons rfl .nil)) ?_
  refine W.seq ?_
  refine W.region ?_
  refine WL.move rfl rfl ?_
  refine WL.move rfl rfl ?_
  refine WL.nilCheck rfl rfl ?_
  refine WL.fieldR (off := 0) Try.underlying33 rfl rfl Try.sizeOf27 rfl rfl rfl ?_
  refine WL.loadR Try.isAgg27 rfl M (by first | ((repeat (first | with_reducible exact Has.here | with_reducible refine Has.there ?_)); done) | (repeat (first | exact Has.here | refine Has.there ?_))) rfl rfl ?_
  refine WL.move rfl rfl ?_
  refine WL.conv Try.underlying3 Try.underlying44 rfl (by first | exact wU64 (by omega) | exact mU64 _ | rfl) rfl ?_
  refine WL.shl rfl rfl (by omega) (by show _ ≤ (32 : Int); omega) rfl rfl ?_
  refine WL.bandNot rfl rfl hbit rfl ?_
  refine WL.nilCheck rfl rfl ?_
  refine WL.fieldR (off := 0) Try.underlying33 rfl rfl Try.sizeOf27 rfl rfl rfl ?_
  refine WL.storeR Try.sizeOf27 rfl rfl rfl M (by first | ((repeat (first | with_reducible exact Has.here | with_reducible refine Has.there ?_)); done) | (repeat (first | exact Has.here | refine Has.there ?_))) (by repeat (first | exact SetAt.zero | apply SetAt.succ)) (by first | ((repeat (first | with_reducible exact Upd.here | with_reducible apply Upd.there)); done) | (repeat (first | exact Upd.here | apply Upd.there))) ?_
  intro w M
  refine WL.nil ?_
  refine WX.next ?_
  refine W.sub [(0, _), (1, _)] (.cons rfl (.cons rfl .nil)) ?_
  refine W.seq ?_
  refine W.region ?_
  refine WL.assign rfl rfl ?_
  refine WL.nil ?_
  refine WX.next ?_
  refine W.sub [(0, _), (1, _), (4, _)] (.cons rfl (.cons rfl (.cons rfl .nil))) ?_
  refine W.seq ?_
  refine W.seq ?_
  refine W.region ?_
  refine WL.assign rfl rfl ?_
  refine WL.nil ?_
  refine WX.next ?_
  refine W.sub [(0, _), (1, _), (4, _), (5, _)] (.cons rfl (.cons rfl (.cons rfl (.cons rfl .nil)))) ?_
  refine W.block ?_
  refine W.loop (ι := Nat × (Option Addr × Nat × List PlX)) (fun z => [(0, .pointer (some ⟨g, 0, none⟩)), (1, .int .i64 (n : Int)), (4, .slice z.2.1 z.2.2.2.length z.2.2.1), (5, .int .i64 (z.1 : Int))]) (fun zz w => Mem w0 w ((fun z => Asr.row g 33 (.int .u32 (upGone up n : Int) :: .slice A ps.length cap :: bs cp) :: Asr.lst placeE z.2.1 z.2.2.1 z.2.2.2 :: Asr.star (z.2.2.2.map PlX.O) :: L') zz) ∧ (fun z => z.1 ≤ ps.length ∧ z.2.2.2.map PlX.key = (goneP (ps.map PlX.key) (n : Int)).take z.1 ∧ z.2.2.2.length = z.1) zz) (fun z => ps.length - z.1) ((0, (none, 0, []))) (by (repeat' (first | exact envSub.nil | refine envSub.cons ?_ ?_)) <;> first | rfl | (refine congrArg some ?_; refine congrArg (Value.int _) ?_; first | omega | (dsimp only; omega)) | (simp; done) | (refine congrArg some ?_; dsimp only; congr 1; omega) | (simp; omega)) ⟨((Mem.nilOwn (Mem.starNil M) 36 2).sel (by first | ((repeat (first | with_reducible exact Sel.refl | with_reducible exact Sel.nil | with_reducible exact Del.here | with_reducible apply Del.there | with_reducible apply Sel.cons | with_reducible apply Sel.drop)); done) | (repeat (first | exact Sel.refl | exact Sel.nil | exact Del.here | apply Del.there | apply Sel.cons | apply Sel.drop)))), ⟨Nat.zero_le _, by simp, rfl⟩⟩ ?_
  clear M; rintro (⟨i, A2, c2, out⟩) w ⟨M, ⟨hi, hok, hol⟩⟩; dsimp only at M hi hok hol ⊢
  refine W.sub [(0, _), (1, _), (4, _), (5, _)] (.cons rfl (.cons rfl (.cons rfl (.cons rfl .nil)))) ?_
  refine W.seq ?_
  refine W.seq ?_
  refine W.region ?_
  refine WL.move rfl rfl ?_
  refine WL.move rfl rfl ?_
  refine WL.nilCheck rfl rfl ?_
  refine WL.fieldR (off := 1) Try.underlying33 rfl rfl Try.sizeOf28 rfl rfl rfl ?_
  refine WL.loadR Try.isAgg28 rfl M (by first | ((repeat (first | with_reducible exact Has.here | with_reducible refine Has.there ?_)); done) | (repeat (first | exact Has.here | refine Has.there ?_))) rfl rfl ?_
  refine WL.len Try.underlying28 rfl rfl ?_
  refine WL.lss rfl rfl rfl ?_
  refine WL.nil ?_
  refine WX.next ?_
  refine W.sub [(0, _), (1, _), (4, _), (5, _), (25, _)] (.cons rfl (.cons rfl (.cons rfl (.cons rfl (.cons rfl .nil))))) ?_
  refine W.ite rfl (fun c0 => ?_) (fun c0 => ?_)
  · have hil : i < ps.length := by omega
    have hnl1 := hnl _ (el_mem hil)
    have hnd : RdLH w0 L' intE (el ps i).A (el ps i).cap (el ps i).nodes := fun w M => (h w M).at_ hil
    refine W.skip ?_
    refine WX.next ?_
    refine W.seq ?_
    refine W.block ?_
    refine W.seq ?_
    refine W.region ?_
    refine WL.move rfl rfl ?_
    refine WL.nilCheck rfl rfl ?_
    refine WL.fieldR (off := 1) Try.underlying33 rfl rfl Try.sizeOf28 rfl rfl rfl ?_
    refine WL.loadR Try.isAgg28 rfl M (by first | ((repeat (first | with_reducible exact Has.here | with_reducible refine Has.there ?_)); done) | (repeat (first | exact Has.here | refine Has.there ?_))) rfl rfl ?_
    refine WL.move rfl rfl ?_
    refine WL.idxA Try.underlying28 Try.sizeOf36 rfl rfl (RdL.isSome (E := placeE) (by first | with_reducible assumption | with_reducible exact RdL.mem (by with_reducible assumption) M | exact M.rdL (by first | ((repeat (first | with_reducible exact Has.here | with_reducible refine Has.there ?_)); done) | (repeat (first | exact Has.here | refine Has.there ?_))) | exact RdLH.at (by assumption) (M.sel (by first | ((repeat (first | with_reducible exact Sel.refl | with_reducible exact Sel.nil | with_reducible exact Del.here | with_reducible apply Del.there | with_reducible apply Sel.cons | with_reducible apply Sel.drop)); done) | (repeat (first | exact Sel.refl | exact Sel.nil | exact Del.here | apply Del.there | apply Sel.cons | apply Sel.drop)))) | exact RdL.nil _ _ _) (by omega)) (by omega) (by omega) (by first | exact rfl | exact (Int.toNat_of_nonneg (by omega)).symm) rfl ?_
    refine WL.fieldA (off := 0) Try.underlying36 rfl rfl Try.sizeOf3 rfl rfl rfl ?_
    refine WL.loadE (E := placeE) Try.isAgg3 rfl (by first | with_reducible assumption | with_reducible exact RdL.mem (by with_reducible assumption) M | exact M.rdL (by first | ((repeat (first | with_reducible exact Has.here | with_reducible refine Has.there ?_)); done) | (repeat (first | exact Has.here | refine Has.there ?_))) | exact RdLH.at (by assumption) (M.sel (by first | ((repeat (first | with_reducible exact Sel.refl | with_reducible exact Sel.nil | with_reducible exact Del.here | with_reducible apply Del.there | with_reducible apply Sel.cons | with_reducible apply Sel.drop)); done) | (repeat (first | exact Sel.refl | exact Sel.nil | exact Del.here | apply Del.there | apply Sel.cons | apply Sel.drop)))) | exact RdL.nil _ _ _) (by omega) rfl rfl ?_
    refine WL.buildP (places := #[(0, 1), (1, 1)]) Try.underlying36 Try.zeroValue36 (fun _ => by simp [Try.sizeOf3, Try.sizeOf34]) rfl (by repeat (first | exact Puts.nil | exact SetAt.zero | apply SetAt.succ | apply Puts.cons rfl rfl)) rfl ?_
    refine WL.alloc Try.zeroValue36 M rfl ?_
    intro g5_9 w M
    try simp only [Value.cells] at M
    try simp only [List.toList_toArray] at M
    refine WL.storeWA Try.sizeOf36 rfl rfl (by repeat (first | exact oneNil | refine oneCons rfl ?_)) rfl rfl M (by first | ((repeat (first | with_reducible exact Upd.here | with_reducible apply Upd.there)); done) | (repeat (first | exact Upd.here | apply Upd.there))) ?_
    intro w M
    refine WL.nil ?_
    refine WX.next ?_
    refine W.sub [(0, _), (1, _), (4, _), (5, _), (6, _)] (.cons rfl (.cons rfl (.cons rfl (.cons rfl (.cons rfl .nil))))) ?_
    refine W.seq ?_
    refine W.seq ?_
    refine W.region ?_
    refine WL.assign rfl rfl ?_
    refine WL.nil ?_
    refine WX.next ?_
    refine W.sub [(0, _), (1, _), (4, _), (5, _), (6, _), (7, _)] (.cons rfl (.cons rfl (.cons rfl (.cons rfl (.cons rfl (.cons rfl .nil)))))) ?_
    refine W.block ?_
    refine W.loop (ι := Nat × (Option Addr × Nat × List Int)) (fun z => [(0, .pointer (some ⟨g, 0, none⟩)), (1, .int .i64 (n : Int)), (4, .slice A2 out.length c2), (5, .int .i64 (i : Int)), (6, .pointer (some ⟨g5_9, 0, none⟩)), (7, .int .i64 (z.1 : Int))]) (fun zz w => Mem w0 w ((fun z => Asr.row g5_9 36 [.int .i64 (el ps i).chunk, .slice z.2.1 z.2.2.2.length z.2.2.1] :: Asr.lst intE z.2.1 z.2.2.1 z.2.2.2 :: Asr.row g 33 (.int .u32 (upGone up n : Int) :: .slice A ps.length cap :: bs cp) :: Asr.lst placeE A2 c2 out :: Asr.star (out.map PlX.O) :: L') zz) ∧ (fun z => z.1 ≤ (el ps i).nodes.length ∧ z.2.2.2 = ((el ps i).nodes.take z.1).filter (fun x => decide (x ≠ (n : Int)))) zz) (fun z => (el ps i).nodes.length - z.1) ((0, (none, 0, []))) (by (repeat' (first | exact envSub.nil | refine envSub.cons ?_ ?_)) <;> first | rfl | (refine congrArg some ?_; refine congrArg (Value.int _) ?_; first | omega | (dsimp only; omega)) | (simp; done) | (refine congrArg some ?_; dsimp only; congr 1; omega) | (simp; omega)) ⟨((M.nilOwn 3 1).sel (by first | ((repeat (first | with_reducible exact Sel.refl | with_reducible exact Sel.nil | with_reducible exact Del.here | with_reducible apply Del.there | with_reducible apply Sel.cons | with_reducible apply Sel.drop)); done) | (repeat (first | exact Sel.refl | exact Sel.nil | exact Del.here | apply Del.there | apply Sel.cons | apply Sel.drop)))), ⟨Nat.zero_le _, rfl⟩⟩ ?_
    clear M; rintro (⟨k, D, cd, nd⟩) w ⟨M, ⟨hk, hnd2⟩⟩; dsimp only at M hk hnd2 ⊢
    refine W.sub [(0, _), (1, _), (4, _), (5, _), (6, _), (7, _)] (.cons rfl (.cons rfl (.cons rfl (.cons rfl (.cons rfl (.cons rfl .nil)))))) ?_
    refine W.seq ?_
    refine W.seq ?_
    refine W.region ?_
    refine WL.move rfl rfl ?_
    refine WL.move rfl rfl ?_
    refine WL.nilCheck rfl rfl ?_
    refine WL.fieldR (off := 1) Try.underlying33 rfl rfl Try.sizeOf28 rfl rfl rfl ?_
    refine WL.loadR Try.isAgg28 rfl M (by first | ((repeat (first | with_reducible exact Has.here | with_reducible refine Has.there ?_)); done) | (repeat (first | exact Has.here | refine Has.there ?_))) rfl rfl ?_
    refine WL.move rfl rfl ?_
    refine WL.idxA Try.underlying28 Try.sizeOf36 rfl rfl (RdL.isSome (E := placeE) (by first | with_reducible assumption | with_reducible exact RdL.mem (by with_reducible assumption) M | exact M.rdL (by first | ((repeat (first | with_reducible exact Has.here | with_reducible refine Has.there ?_)); done) | (repeat (first | exact Has.here | refine Has.there ?_))) | exact RdLH.at (by assumption) (M.sel (by first | ((repeat (first | with_reducible exact Sel.refl | with_reducible exact Sel.nil | with_reducible exact Del.here | with_reducible apply Del.there | with_reducible apply Sel.cons | with_reducible apply Sel.drop)); done) | (repeat (first | exact Sel.refl | exact Sel.nil | exact Del.here | apply Del.there | apply Sel.cons | apply Sel.drop)))) | exact RdL.nil _ _ _) (by omega)) (by omega) (by omega) (by first | exact rfl | exact (Int.toNat_of_nonneg (by omega)).symm) rfl ?_
    refine WL.fieldA (off := 1) Try.underlying36 rfl rfl Try.sizeOf34 rfl rfl rfl ?_
    refine WL.loadE (E := placeE) Try.isAgg34 rfl (by first | with_reducible assumption | with_reducible exact RdL.mem (by with_reducible assumption) M | exact M.rdL (by first | ((repeat (first | with_reducible exact Has.here | with_reducible refine Has.there ?_)); done) | (repeat (first | exact Has.here | refine Has.there ?_))) | exact RdLH.at (by assumption) (M.sel (by first | ((repeat (first | with_reducible exact Sel.refl | with_reducible exact Sel.nil | with_reducible exact Del.here | with_reducible apply Del.there | with_reducible apply Sel.cons | with_reducible apply Sel.drop)); done) | (repeat (first | exact Sel.refl | exact Sel.nil | exact Del.here | apply Del.there | apply Sel.cons | apply Sel.drop)))) | exact RdL.nil _ _ _) (by omega) rfl rfl ?_
    refine WL.len Try.underlying34 rfl rfl ?_
    refine WL.lss rfl rfl rfl ?_
    refine WL.nil ?_
    refine WX.next ?_
    refine W.sub [(0, _), (1, _), (4, _), (5, _), (6, _), (7, _), (47, _)] (.cons rfl (.cons rfl (.cons rfl (.cons rfl (.cons rfl (.cons rfl (.cons rfl .nil))))))) ?_
    refine W.ite rfl (fun c1 => ?_) (fun c1 => ?_)
    · have hkl : k < (el ps i).nodes.length := by omega
      have hln : nd.length ≤ 5 := by rw [hnd2]; exact Nat.le_trans (List.length_filter_le ..) (by rw [List.length_take]; omega)
      refine W.skip ?_
      refine WX.next ?_
      refine W.seq ?_
      refine W.block ?_
      refine W.seq ?_
      refine W.region ?_
      refine WL.move rfl rfl ?_
      refine WL.nilCheck rfl rfl ?_
      refine WL.fieldR (off := 1) Try.underlying33 rfl rfl Try.sizeOf28 rfl rfl rfl ?_
      refine WL.loadR Try.isAgg28 rfl M (by first | ((repeat (first | with_reducible exact Has.here | with_reducible refine Has.there ?_)); done) | (repeat (first | exact Has.here | refine Has.there ?_))) rfl rfl ?_
      refine WL.move rfl rfl ?_
      refine WL.idxA Try.underlying28 Try.sizeOf36 rfl rfl (RdL.isSome (E := placeE) (by first | with_reducible assumption | with_reducible exact RdL.mem (by with_reducible assumption) M | exact M.rdL (by first | ((repeat (first | with_reducible exact Has.here | with_reducible refine Has.there ?_)); done) | (repeat (first | exact Has.here | refine Has.there ?_))) | exact RdLH.at (by assumption) (M.sel (by first | ((repeat (first | with_reducible exact Sel.refl | with_reducible exact Sel.nil | with_reducible exact Del.here | with_reducible apply Del.there | with_reducible apply Sel.cons | with_reducible apply Sel.drop)); done) | (repeat (first | exact Sel.refl | exact Sel.nil | exact Del.here | apply Del.there | apply Sel.cons | apply Sel.drop)))) | exact RdL.nil _ _ _) (by omega)) (by omega) (by omega) (by first | exact rfl | exact (Int.toNat_of_nonneg (by omega)).symm) rfl ?_
      refine WL.fieldA (off := 1) Try.underlying36 rfl rfl Try.sizeOf34 rfl rfl rfl ?_
      refine WL.loadE (E := placeE) Try.isAgg34 rfl (by first | with_reducible assumption | with_reducible exact RdL.mem (by with_reducible assumption) M | exact M.rdL (by first | ((repeat (first | with_reducible exact Has.here | with_reducible refine Has.there ?_)); done) | (repeat (first | exact Has.here | refine Has.there ?_))) | exact RdLH.at (by assumption) (M.sel (by first | ((repeat (first | with_reducible exact Sel.refl | with_reducible exact Sel.nil | with_reducible exact Del.here | with_reducible apply Del.there | with_reducible apply Sel.cons | with_reducible apply Sel.drop)); done) | (repeat (first | exact Sel.refl | exact Sel.nil | exact Del.here | apply Del.there | apply Sel.cons | apply Sel.drop)))) | exact RdL.nil _ _ _) (by omega) rfl rfl ?_
      refine WL.move rfl rfl ?_
      refine WL.idxA Try.underlying34 Try.sizeOf3 rfl rfl (RdL.isSome (E := intE) (by first | with_reducible assumption | with_reducible exact RdL.mem (by with_reducible assumption) M | exact M.rdL (by first | ((repeat (first | with_reducible exact Has.here | with_reducible refine Has.there ?_)); done) | (repeat (first | exact Has.here | refine Has.there ?_))) | exact RdLH.at (by assumption) (M.sel (by first | ((repeat (first | with_reducible exact Sel.refl | with_reducible exact Sel.nil | with_reducible exact Del.here | with_reducible apply Del.there | with_reducible apply Sel.cons | with_reducible apply Sel.drop)); done) | (repeat (first | exact Sel.refl | exact Sel.nil | exact Del.here | apply Del.there | apply Sel.cons | apply Sel.drop)))) | exact RdL.nil _ _ _) (by omega)) (by omega) (by omega) (by first | exact rfl | exact (Int.toNat_of_nonneg (by omega)).symm) rfl ?_
      refine WL.loadE0 (E := intE) Try.isAgg3 rfl (by first | with_reducible assumption | with_reducible exact RdL.mem (by with_reducible assumption) M | exact M.rdL (by first | ((repeat (first | with_reducible exact Has.here | with_reducible refine Has.there ?_)); done) | (repeat (first | exact Has.here | refine Has.there ?_))) | exact RdLH.at (by assumption) (M.sel (by first | ((repeat (first | with_reducible exact Sel.refl | with_reducible exact Sel.nil | with_reducible exact Del.here | with_reducible apply Del.there | with_reducible apply Sel.cons | with_reducible apply Sel.drop)); done) | (repeat (first | exact Sel.refl | exact Sel.nil | exact Del.here | apply Del.there | apply Sel.cons | apply Sel.drop)))) | exact RdL.nil _ _ _) (by omega) rfl rfl ?_
      refine WL.move rfl rfl ?_
      refine WL.neI rfl rfl rfl ?_
      refine WL.nil ?_
      refine WX.next ?_
      refine W.sub [(0, _), (1, _), (4, _), (5, _), (6, _), (7, _), (62, _)] (.cons rfl (.cons rfl (.cons rfl (.cons rfl (.cons rfl (.cons rfl (.cons rfl .nil))))))) ?_
      refine W.ite rfl (fun c2 => ?_) (fun c2 => ?_)
      · refine W.drawM (Asr.row g5_9 36 [.int .i64 (el ps i).chunk, .slice D nd.length cd] :: Asr.row g 33 (.int .u32 (upGone up n : Int) :: .slice A ps.length cap :: bs cp) :: L') (by kernel_rfl) (fun j => [1, 5, 7, 8, 9, 11, 12, 13].contains j) M (by first | ((repeat (first | with_reducible exact Sel.refl | with_reducible exact Sel.nil | with_reducible exact Del.here | with_reducible apply Del.there | with_reducible apply Sel.cons | with_reducible apply Sel.drop)); done) | (repeat (first | exact Sel.refl | exact Sel.nil | exact Del.here | apply Del.there | apply Sel.cons | apply Sel.drop))) ?_
        clear M; intro M
        apply DG.pure_ [0, 2, 3, 4, 6, 10] 11 rfl (by kernel_rfl) (by kernel_rfl)
        · intro w
          refine WL.fieldR (off := 1) Try.underlying36 rfl rfl Try.sizeOf34 rfl rfl rfl ?_
          refine WL.move rfl rfl ?_
          refine WL.nilCheck rfl rfl ?_
          refine WL.fieldR (off := 1) Try.underlying33 rfl rfl Try.sizeOf28 rfl rfl rfl ?_
          refine WL.move rfl rfl ?_
          refine WL.move rfl rfl ?_
          exact Chain.end_ rfl
        apply DG.take [1, 5, 7, 8, 9, 11, 12] 4 rfl (by kernel_rfl) (by kernel_rfl) (M.sel (by first | ((repeat (first | with_reducible exact Sel.refl | with_reducible exact Sel.nil | with_reducible exact Del.here | with_reducible apply Del.there | with_reducible apply Sel.cons | with_reducible apply Sel.drop)); done) | (repeat (first | exact Sel.refl | exact Sel.nil | exact Del.here | apply Del.there | apply Sel.cons | apply Sel.drop))))
        · intro w M
          refine WL.loadR Try.isAgg34 rfl M (by first | ((repeat (first | with_reducible exact Has.here | with_reducible refine Has.there ?_)); done) | (repeat (first | exact Has.here | refine Has.there ?_))) rfl rfl ?_
          refine WL.loadR Try.isAgg28 rfl M (by first | ((repeat (first | with_reducible exact Has.here | with_reducible refine Has.there ?_)); done) | (repeat (first | exact Has.here | refine Has.there ?_))) rfl rfl ?_
          refine WL.idxA Try.underlying28 Try.sizeOf36 rfl rfl (RdL.isSome (E := placeE) (by first | with_reducible assumption | with_reducible exact RdL.mem (by with_reducible assumption) M | exact M.rdL (by first | ((repeat (first | with_reducible exact Has.here | with_reducible refine Has.there ?_)); done) | (repeat (first | exact Has.here | refine Has.there ?_))) | exact RdLH.at (by assumption) (M.sel (by first | ((repeat (first | with_reducible exact Sel.refl | with_reducible exact Sel.nil | with_reducible exact Del.here | with_reducible apply Del.there | with_reducible apply Sel.cons | with_reducible apply Sel.drop)); done) | (repeat (first | exact Sel.refl | exact Sel.nil | exact Del.here | apply Del.there | apply Sel.cons | apply Sel.drop)))) | exact RdL.nil _ _ _) (by omega)) (by omega) (by omega) (by first | exact rfl | exact (Int.toNat_of_nonneg (by omega)).symm) rfl ?_
          refine WL.fieldA (off := 1) Try.underlying36 rfl rfl Try.sizeOf34 rfl rfl rfl ?_
          refine WL.loadE (E := placeE) Try.isAgg34 rfl (by first | with_reducible assumption | with_reducible exact RdL.mem (by with_reducible assumption) M | exact M.rdL (by first | ((repeat (first | with_reducible exact Has.here | with_reducible refine Has.there ?_)); done) | (repeat (first | exact Has.here | refine Has.there ?_))) | exact RdLH.at (by assumption) (M.sel (by first | ((repeat (first | with_reducible exact Sel.refl | with_reducible exact Sel.nil | with_reducible exact Del.here | with_reducible apply Del.there | with_reducible apply Sel.cons | with_reducible apply Sel.drop)); done) | (repeat (first | exact Sel.refl | exact Sel.nil | exact Del.here | apply Del.there | apply Sel.cons | apply Sel.drop)))) | exact RdL.nil _ _ _) (by omega) rfl rfl ?_
          refine WL.idxA Try.underlying34 Try.sizeOf3 rfl rfl (RdL.isSome (E := intE) (by first | with_reducible assumption | with_reducible exact RdL.mem (by with_reducible assumption) M | exact M.rdL (by first | ((repeat (first | with_reducible exact Has.here | with_reducible refine Has.there ?_)); done) | (repeat (first | exact Has.here | refine Has.there ?_))) | exact RdLH.at (by assumption) (M.sel (by first | ((repeat (first | with_reducible exact Sel.refl | with_reducible exact Sel.nil | with_reducible exact Del.here | with_reducible apply Del.there | with_reducible apply Sel.cons | with_reducible apply Sel.drop)); done) | (repeat (first | exact Sel.refl | exact Sel.nil | exact Del.here | apply Del.there | apply Sel.cons | apply Sel.drop)))) | exact RdL.nil _ _ _) (by omega)) (by omega) (by omega) (by first | exact rfl | exact (Int.toNat_of_nonneg (by omega)).symm) rfl ?_
          refine WL.loadE0 (E := intE) Try.isAgg3 rfl (by first | with_reducible assumption | with_reducible exact RdL.mem (by with_reducible assumption) M | exact M.rdL (by first | ((repeat (first | with_reducible exact Has.here | with_reducible refine Has.there ?_)); done) | (repeat (first | exact Has.here | refine Has.there ?_))) | exact RdLH.at (by assumption) (M.sel (by first | ((repeat (first | with_reducible exact Sel.refl | with_reducible exact Sel.nil | with_reducible exact Del.here | with_reducible apply Del.there | with_reducible apply Sel.cons | with_reducible apply Sel.drop)); done) | (repeat (first | exact Sel.refl | exact Sel.nil | exact Del.here | apply Del.there | apply Sel.cons | apply Sel.drop)))) | exact RdL.nil _ _ _) (by omega) rfl rfl ?_
          exact Chain.end_ rfl
        refine DG.step 13 3 rfl (by kernel_rfl) ?_
        refine WL.buildL (E := intE) (l := [el (el ps i).nodes k]) Try.elem3 M rfl rfl rfl rfl rfl rfl ?_
        intro g10_13 w M
        refine DG.go (G := fun j => [1, 5, 7, 8, 9, 11, 12, 13].contains j) (i := 13) (f' := 3) (done := [0, 2, 3, 4, 6, 10, 1, 5, 7, 8, 9, 11, 12]) (fun _ => M.sel (by first | ((repeat (first | with_reducible exact Sel.refl | with_reducible exact Sel.nil | with_reducible exact Del.here | with_reducible apply Del.there | with_reducible apply Sel.cons | with_reducible apply Sel.drop)); done) | (repeat (first | exact Sel.refl | exact Sel.nil | exact Del.here | apply Del.there | apply Sel.cons | apply Sel.drop)))) ?_
        refine DG.step 14 2 rfl (by kernel_rfl) ?_
        refine WL.appendL (E := intE) Try.elem3 rfl rfl M (by first | ((repeat (first | with_reducible exact Del.here | with_reducible apply Del.there)); done) | (repeat (first | exact Del.here | apply Del.there))) (by first | with_reducible assumption | with_reducible exact RdL.mem (by with_reducible assumption) M | exact M.rdL (by first | ((repeat (first | with_reducible exact Has.here | with_reducible refine Has.there ?_)); done) | (repeat (first | exact Has.here | refine Has.there ?_))) | exact RdLH.at (by assumption) (M.sel (by first | ((repeat (first | with_reducible exact Sel.refl | with_reducible exact Sel.nil | with_reducible exact Del.here | with_reducible apply Del.there | with_reducible apply Sel.cons | with_reducible apply Sel.drop)); done) | (repeat (first | exact Sel.refl | exact Sel.nil | exact Del.here | apply Del.there | apply Sel.cons | apply Sel.drop)))) | exact RdL.nil _ _ _) rfl rfl (by first | omega | (simp; done) | (simp; omega)) (by first | (simp only [maxLen]; omega) | (simp [maxLen]; done) | (simp [maxLen]; omega)) rfl ?_
        intro A10_14 cap10_14 w M
        refine DG.go (G := fun j => [1, 5, 7, 8, 9, 11, 12, 13].contains j) (i := 14) (f' := 2) (done := [0, 2, 3, 4, 6, 10, 1, 5, 7, 8, 9, 11, 12, 13]) (fun h => by cases h) ?_
        apply DG.pure_ [15] 1 rfl (by kernel_rfl) (by kernel_rfl)
        · intro w
          refine WL.fieldR (off := 1) Try.underlying36 rfl rfl Try.sizeOf34 rfl rfl rfl ?_
          exact Chain.end_ rfl
        refine DG.step 16 0 rfl (by kernel_rfl) ?_
        refine WL.storeR Try.sizeOf34 rfl rfl rfl M (by first | ((repeat (first | with_reducible exact Has.here | with_reducible refine Has.there ?_)); done) | (repeat (first | exact Has.here | refine Has.there ?_))) (by repeat (first | exact SetAt.zero | apply SetAt.succ)) (by first | ((repeat (first | with_reducible exact Upd.here | with_reducible apply Upd.there)); done) | (repeat (first | exact Upd.here | apply Upd.there))) ?_
        intro w M
        refine DG.go (G := fun j => [1, 5, 7, 8, 9, 11, 12, 13].contains j) (i := 16) (f' := 0) (done := [0, 2, 3, 4, 6, 10, 1, 5, 7, 8, 9, 11, 12, 13, 14, 15]) (fun h => by cases h) ?_
        refine DG.end_ (by kernel_rfl) ?_
        refine WX.blockNormal ?_
        refine WX.next ?_
        refine W.sub [(0, _), (1, _), (4, _), (5, _), (6, _), (7, _)] (.cons rfl (.cons rfl (.cons rfl (.cons rfl (.cons rfl (.cons rfl .nil)))))) ?_
        refine W.region ?_
        refine WL.move rfl rfl ?_
        refine WL.add rfl rfl (by first | exact wI64 (by omega) | rfl) rfl ?_
        refine WL.assign rfl rfl ?_
        refine WL.nil ?_
        skip
        have q : nd ++ [el (el ps i).nodes k] = ((el ps i).nodes.take (k + 1)).filter (fun x => decide (x ≠ (n : Int))) := by
          rw [filter_take_succ hkl, ← hnd2, if_pos (decide_eq_true c2)]
        refine WX.round ((k + 1, (A10_14, cap10_14, nd ++ [el (el ps i).nodes k]))) (by (repeat' (first | exact envSub.nil | refine envSub.cons ?_ ?_)) <;> first | rfl | (refine congrArg some ?_; refine congrArg (Value.int _) ?_; first | omega | (dsimp only; omega)) | (simp; done) | (refine congrArg some ?_; dsimp only; congr 1; omega) | (simp; omega)) ⟨M.sel (by first | ((repeat (first | with_reducible exact Sel.refl | with_reducible exact Sel.nil | with_reducible exact Del.here | with_reducible apply Del.there | with_reducible apply Sel.cons | with_reducible apply Sel.drop)); done) | (repeat (first | exact Sel.refl | exact Sel.nil | exact Del.here | apply Del.there | apply Sel.cons | apply Sel.drop))), ⟨by dsimp only; omega, q⟩⟩ (by first | omega | (dsimp only; omega))
      · refine W.skip ?_
        refine WX.blockNormal ?_
        refine WX.next ?_
        refine W.region ?_
        refine WL.move rfl rfl ?_
        refine WL.add rfl rfl (by first | exact wI64 (by omega) | rfl) rfl ?_
        refine WL.assign rfl rfl ?_
        refine WL.nil ?_
        skip
        have q : nd = ((el ps i).nodes.take (k + 1)).filter (fun x => decide (x ≠ (n : Int))) := by
          rw [filter_take_succ hkl, ← hnd2, if_neg (by simpa using c2), List.append_nil]
        refine WX.round ((k + 1, (D, cd, nd))) (by (repeat' (first | exact envSub.nil | refine envSub.cons ?_ ?_)) <;> first | rfl | (refine congrArg some ?_; refine congrArg (Value.int _) ?_; first | omega | (dsimp only; omega)) | (simp; done) | (refine congrArg some ?_; dsimp only; congr 1; omega) | (simp; omega)) ⟨M.sel (by first | ((repeat (first | with_reducible exact Sel.refl | with_reducible exact Sel.nil | with_reducible exact Del.here | with_reducible apply Del.there | with_reducible apply Sel.cons | with_reducible apply Sel.drop)); done) | (repeat (first | exact Sel.refl | exact Sel.nil | exact Del.here | apply Del.there | apply Sel.cons | apply Sel.drop))), ⟨by dsimp only; omega, q⟩⟩ (by first | omega | (dsimp only; omega))
    · obtain rfl : k = (el ps i).nodes.length := by omega
      rw [List.take_length] at hnd2
      refine W.exit ?_
      refine WX.thenExit ?_
      refine WX.thenExit ?_
      refine WX.blockHere ?_
      refine WX.next ?_
      refine W.region ?_
      refine WL.move rfl rfl ?_
      refine WL.loadW Try.isAgg36 Try.sizeOf36 rfl M (by first | ((repeat (first | with_reducible exact Has.here | with_reducible refine Has.there ?_)); done) | (repeat (first | exact Has.here | refine Has.there ?_))) rfl rfl ?_
      refine WL.buildL (E := placeE) (l := [(⟨(el ps i).chunk, D, cd, nd⟩ : PlX)]) Try.elem36 M rfl rfl rfl rfl rfl rfl ?_
      intro g11_2 w M
      refine WL.appendL (E := placeE) Try.elem36 rfl rfl M (by first | ((repeat (first | with_reducible exact Del.here | with_reducible apply Del.there)); done) | (repeat (first | exact Del.here | apply Del.there))) (by first | with_reducible assumption | with_reducible exact RdL.mem (by with_reducible assumption) M | exact M.rdL (by first | ((repeat (first | with_reducible exact Has.here | with_reducible refine Has.there ?_)); done) | (repeat (first | exact Has.here | refine Has.there ?_))) | exact RdLH.at (by assumption) (M.sel (by first | ((repeat (first | with_reducible exact Sel.refl | with_reducible exact Sel.nil | with_reducible exact Del.here | with_reducible apply Del.there | with_reducible apply Sel.cons | with_reducible apply Sel.drop)); done) | (repeat (first | exact Sel.refl | exact Sel.nil | exact Del.here | apply Del.there | apply Sel.cons | apply Sel.drop)))) | exact RdL.nil _ _ _) rfl rfl (by first | omega | (simp; done) | (simp; omega)) (by first | (simp only [maxLen]; omega) | (simp [maxLen]; done) | (simp [maxLen]; omega)) rfl ?_
      intro A11_3 cap11_3 w M
      refine WL.assign rfl rfl ?_
      refine WL.nil ?_
      refine WX.blockNormal ?_
      refine WX.next ?_
      refine W.sub [(0, _), (1, _), (4, _), (5, _)] (.cons rfl (.cons rfl (.cons rfl (.cons rfl .nil)))) ?_
      refine W.region ?_
      refine WL.move rfl rfl ?_
      refine WL.add rfl rfl (by first | exact wI64 (by omega) | rfl) rfl ?_
      refine WL.assign rfl rfl ?_
      refine WL.nil ?_
      skip
      have q : (out ++ [(⟨(el ps i).chunk, D, cd, nd⟩ : PlX)]).map PlX.key = (goneP (ps.map PlX.key) (n : Int)).take (i + 1) := by
        rw [List.take_succ_eq_append_getElem (by unfold goneP; rw [List.length_map, List.length_map]; exact hil), ← hok, List.map_append]
        congr 1
        unfold goneP
        rw [List.getElem_map, List.getElem_map]
        have e : ps[i] = el ps i := by simp [el, hil]
        rw [e, hnd2]
        rfl
      have M2 : Mem w0 w (Asr.star ((out ++ [(⟨(el ps i).chunk, D, cd, nd⟩ : PlX)]).map PlX.O) :: Asr.lst placeE A11_3 cap11_3 (out ++ [(⟨(el ps i).chunk, D, cd, nd⟩ : PlX)]) :: Asr.row g 33 (.int .u32 (upGone up n : Int) :: .slice A ps.length cap :: bs cp) :: L') := by
        rw [List.map_append]
        refine Mem.starSnoc ?_
        exact M.sel (by first | ((repeat (first | with_reducible exact Sel.refl | with_reducible exact Sel.nil | with_reducible exact Del.here | with_reducible apply Del.there | with_reducible apply Sel.cons | with_reducible apply Sel.drop)); done) | (repeat (first | exact Sel.refl | exact Sel.nil | exact Del.here | apply Del.there | apply Sel.cons | apply Sel.drop)))
      replace M := M2
      refine WX.round ((i + 1, (A11_3, cap11_3, out ++ [(⟨(el ps i).chunk, D, cd, nd⟩ : PlX)]))) (by (repeat' (first | exact envSub.nil | refine envSub.cons ?_ ?_)) <;> first | rfl | (refine congrArg some ?_; refine congrArg (Value.int _) ?_; first | omega | (dsimp only; omega)) | (simp; done) | (refine congrArg some ?_; dsimp only; congr 1; omega) | (simp; omega)) ⟨M.sel (by first | ((repeat (first | with_reducible exact Sel.refl | with_reducible exact Sel.nil | with_reducible exact Del.here | with_reducible apply Del.there | with_reducible apply Sel.cons | with_reducible apply Sel.drop)); done) | (repeat (first | exact Sel.refl | exact Sel.nil | exact Del.here | apply Del.there | apply Sel.cons | apply Sel.drop))), ⟨by dsimp only; omega, q, by dsimp only; rw [List.length_append]; simp; omega⟩⟩ (by first | omega | (dsimp only; omega))
  · obtain rfl : i = ps.length := by omega
    rw [List.take_of_length_le (by unfold goneP; simp)] at hok
    refine W.exit ?_
    refine WX.thenExit ?_
    refine WX.thenExit ?_
    refine WX.blockHere ?_
    refine WX.next ?_
    refine W.seq ?_
    refine W.region ?_
    refine WL.move rfl rfl ?_
    refine WL.move rfl rfl ?_
    refine WL.nilCheck rfl rfl ?_
    refine WL.fieldR (off := 1) Try.underlying33 rfl rfl Try.sizeOf28 rfl rfl rfl ?_
    refine WL.storeR Try.sizeOf28 rfl rfl rfl M (by first | ((repeat (first | with_reducible exact Has.here | with_reducible refine Has.there ?_)); done) | (repeat (first | exact Has.here | refine Has.there ?_))) (by repeat (first | exact SetAt.zero | apply SetAt.succ)) (by first | ((repeat (first | with_reducible exact Upd.here | with_reducible apply Upd.there)); done) | (repeat (first | exact Upd.here | apply Upd.there))) ?_
    intro w M
    refine WL.nil ?_
    refine WX.next ?_
    refine W.sub [(0, _), (1, _)] (.cons rfl (.cons rfl .nil)) ?_
    refine W.region ?_
    refine WL.move rfl rfl ?_
    refine WL.move rfl rfl ?_
    refine WL.buildArr (vs := []) Try.underlying30 Try.zeroValue30 Try.sizeOf29 rfl rfl rfl ?_
    refine WL.nilCheck rfl rfl ?_
    refine WL.fieldR (off := 2) Try.underlying33 rfl rfl Try.sizeOf31 rfl rfl rfl ?_
    refine WL.idxArrR Try.underlying31 Try.sizeOf30 rfl rfl (by omega) (by omega) (by first | exact rfl | exact (Int.toNat_of_nonneg (by omega)).symm) rfl ?_
    refine WL.storeSub (cs := .int .u32 (upGone up n : Int) :: .slice A2 out.length c2 :: bs cp) (vs := bs (List.replicate 24 0)) Try.sizeOf30 rfl rfl bs_one (by simp [bs]) (by simp only [List.length_cons, bs_length, hcp]; omega) (cells_goneNow n) M (by first | ((repeat (first | with_reducible exact Upd.here | with_reducible apply Upd.there)); done) | (repeat (first | exact Upd.here | apply Upd.there))) ?_
    intro w M
    refine WL.nil ?_
    refine WX.end0 rfl ?_
    exact ⟨A2, c2, out, hok, by omega, M.sel (by first | ((repeat (first | with_reducible exact Sel.refl | with_reducible exact Sel.nil | with_reducible exact Del.here | with_reducible apply Del.there | with_reducible apply Sel.cons | with_reducible apply Sel.drop)); done) | (repeat (first | exact Sel.refl | exact Sel.nil | exact Del.here | apply Del.there | apply Sel.cons | apply Sel.drop)))⟩
set_option maxHeartbeats 4000000 in
set_option maxRecDepth 10000 in
theorem heals_ok {g up cap : Nat} {A : Option Addr} {ps : List PlX} {cp want : List UInt8} {lost : List Bool} (F : Farm up (ps.map PlX.key) cp want lost) (w0 w : World) (L L' : List Asr) (M : Mem w0 w L)
    (hd : Del (Asr.row g 33 (.int .u32 (up : Int) :: .slice A ps.length cap :: bs cp)) L L') (h : ∀ w, Mem w0 w L' → RdP w A cap ps) :
    Fn Try.prog 8 [.pointer (some ⟨g, 0, none⟩)] w fun v w' => v = .bool true ∧ ∃ A2 c2 ps2 cp2, Farm up (List.map PlX.key ps2) cp2 want lost ∧ (∀ c, c < 4 → Full up 5 2 (el (ps2.map PlX.key) c).nodes) ∧
      Mem w0 w' (Asr.row g 33 (.int .u32 (up : Int) :: .slice A2 ps2.length c2 :: bs cp2) :: Asr.lst placeE A2 c2 ps2 :: Asr.star (ps2.map PlX.O) :: L') := by
  have M1 := M.del hd
  replace M := M1
  have hup := F.ups
  have hS : Sites [0, 0, 1, 1, 2] := ⟨by simp, by simp, by intro x hx; simp at hx; omega⟩
  have hF := F.formed
  have hpl : ps.length = 4 := by have := F.pl; simpa using this
  refine Fn.enter Try.func8 rfl Try.ntmps8 rfl ?_
  refine W.sub [(0, _)] (.cons rfl .nil) ?_
  refine W.seq ?_
  refine W.region ?_
  refine WL.assign rfl rfl ?_
  refine WL.nil ?_
  refine WX.next ?_
  refine W.sub [(0, _)] (.cons rfl .nil) ?_
  refine W.seq ?_
  refine W.drawM (Asr.row g 33 (.int .u32 (up : Int) :: .slice A ps.length cap :: bs cp) :: L') (by kernel_rfl) (fun j => [0, 4, 8].contains j) M (by first | ((repeat (first | with_reducible exact Sel.refl | with_reducible exact Sel.nil | with_reducible exact Del.here | with_reducible apply Del.there | with_reducible apply Sel.cons | with_reducible apply Sel.drop)); done) | (repeat (first | exact Sel.refl | exact Sel.nil | exact Del.here | apply Del.there | apply Sel.cons | apply Sel.drop))) ?_
  clear M; intro M
  apply DG.pure_ [1, 2, 3, 5, 6, 7] 9 rfl (by kernel_rfl) (by kernel_rfl)
  · intro w
    refine WL.move rfl rfl ?_
    refine WL.nilCheck rfl rfl ?_
    refine WL.fieldR (off := 0) Try.underlying33 rfl rfl Try.sizeOf27 rfl rfl rfl ?_
    refine WL.move rfl rfl ?_
    refine WL.nilCheck rfl rfl ?_
    refine WL.fieldR (off := 1) Try.underlying33 rfl rfl Try.sizeOf28 rfl rfl rfl ?_
    exact Chain.end_ rfl
  apply DG.take [4, 8] 7 rfl (by kernel_rfl) (by kernel_rfl) (M.sel (by first | ((repeat (first | with_reducible exact Sel.refl | with_reducible exact Sel.nil | with_reducible exact Del.here | with_reducible apply Del.there | with_reducible apply Sel.cons | with_reducible apply Sel.drop)); done) | (repeat (first | exact Sel.refl | exact Sel.nil | exact Del.here | apply Del.there | apply Sel.cons | apply Sel.drop))))
  · intro w M
    refine WL.loadR Try.isAgg27 rfl M (by first | ((repeat (first | with_reducible exact Has.here | with_reducible refine Has.there ?_)); done) | (repeat (first | exact Has.here | refine Has.there ?_))) rfl rfl ?_
    refine WL.loadR Try.isAgg28 rfl M (by first | ((repeat (first | with_reducible exact Has.here | with_reducible refine Has.there ?_)); done) | (repeat (first | exact Has.here | refine Has.there ?_))) rfl rfl ?_
    exact Chain.end_ rfl
  refine DG.step 0 6 rfl (by kernel_rfl) ?_
  refine WL.buildL (E := intE) (l := [0, 0, 1, 1, 2]) Try.elem3 M rfl rfl rfl rfl rfl rfl ?_
  intro g1_0 w M
  refine DG.go (G := fun j => [0, 4, 8].contains j) (i := 0) (f' := 6) (done := [1, 2, 3, 5, 6, 7, 4, 8]) (fun _ => M.sel (by first | ((repeat (first | with_reducible exact Sel.refl | with_reducible exact Sel.nil | with_reducible exact Del.here | with_reducible apply Del.there | with_reducible apply Sel.cons | with_reducible apply Sel.drop)); done) | (repeat (first | exact Sel.refl | exact Sel.nil | exact Del.here | apply Del.there | apply Sel.cons | apply Sel.drop)))) ?_
  refine DG.step 9 5 rfl (by kernel_rfl) ?_
  refine WL.call Try.call14 rfl (Plan_ok (sites := [0, 0, 1, 1, 2]) (copies := 2) (by omega) (by omega) hS hF (M.rdL (by first | ((repeat (first | with_reducible exact Has.here | with_reducible refine Has.there ?_)); done) | (repeat (first | exact Has.here | refine Has.there ?_)))) (h _ (M.sel (by first | ((repeat (first | with_reducible exact Sel.refl | with_reducible exact Sel.nil | with_reducible exact Del.here | with_reducible apply Del.there | with_reducible apply Sel.cons | with_reducible apply Sel.drop)); done) | (repeat (first | exact Sel.refl | exact Sel.nil | exact Del.here | apply Del.there | apply Sel.cons | apply Sel.drop)))))) rfl ?_
  rintro _ w ⟨D, cd, ms, rfl, hpl2, hml, m⟩
  replace M := M.call1 m; clear m
  have hto : ∀ m ∈ ms, 0 ≤ m.to_ ∧ m.to_ < 5 ∧ hUp up m.to_ = true := fun m hm => by have := hpl2.to_up m hm; simpa using this
  obtain ⟨qs, hmv, hFq, hql, hhe⟩ := hpl2.moves (by simp) hF
  rw [List.length_map] at hql hhe
  refine DG.go (G := fun j => [0, 4, 8].contains j) (i := 9) (f' := 5) (done := [1, 2, 3, 5, 6, 7, 4, 8, 0]) (fun h => by cases h) ?_
  apply DG.pure_ [10, 11, 12, 13, 14] 0 rfl (by kernel_rfl) (by kernel_rfl)
  · intro w
    refine WL.move rfl rfl ?_
    refine WL.extractL rfl rfl rfl ?_
    refine WL.extractL rfl rfl rfl ?_
    refine WL.assign rfl rfl ?_
    refine WL.assign rfl rfl ?_
    exact Chain.end_ rfl
  refine DG.end_ (by kernel_rfl) ?_
  refine WX.next ?_
  refine W.sub [(0, _), (3, _), (4, _)] (.cons rfl (.cons rfl (.cons rfl .nil))) ?_
  refine W.seq ?_
  refine W.region ?_
  refine WL.move rfl rfl ?_
  refine WL.nilCheck rfl rfl ?_
  refine WL.fieldR (off := 1) Try.underlying33 rfl rfl Try.sizeOf28 rfl rfl rfl ?_
  refine WL.loadR Try.isAgg28 rfl M (by first | ((repeat (first | with_reducible exact Has.here | with_reducible refine Has.there ?_)); done) | (repeat (first | exact Has.here | refine Has.there ?_))) rfl rfl ?_
  refine WL.move rfl rfl ?_
  refine WL.call Try.call15 rfl (Apply_ok (N := 5) (by omega) hF hmv (fun m hm => ⟨(hto m hm).1, (hto m hm).2.1⟩) (by omega) (h _ (M.sel (by first | ((repeat (first | with_reducible exact Sel.refl | with_reducible exact Sel.nil | with_reducible exact Del.here | with_reducible apply Del.there | with_reducible apply Sel.cons | with_reducible apply Sel.drop)); done) | (repeat (first | exact Sel.refl | exact Sel.nil | exact Del.here | apply Del.there | apply Sel.cons | apply Sel.drop))))) (M.rdL (by first | ((repeat (first | with_reducible exact Has.here | with_reducible refine Has.there ?_)); done) | (repeat (first | exact Has.here | refine Has.there ?_))))) rfl ?_
  rintro _ w ⟨E, ce, nx, rfl, hnx, m⟩
  replace M := M.callN m; clear m
  refine WL.move rfl rfl ?_
  refine WL.extractL rfl rfl rfl ?_
  refine WL.extractL rfl rfl rfl ?_
  refine WL.assign rfl rfl ?_
  refine WL.assign rfl rfl ?_
  refine WL.nil ?_
  refine WX.next ?_
  refine W.sub [(0, _), (3, _), (4, _), (5, _), (6, _)] (.cons rfl (.cons rfl (.cons rfl (.cons rfl (.cons rfl .nil))))) ?_
  refine W.seq ?_
  refine W.seq ?_
  refine W.region ?_
  refine WL.move rfl rfl ?_
  refine WL.neI rfl rfl rfl ?_
  refine WL.moveIf rfl rfl (fun c0 => ?_) (fun c0 => ?_)
  · exact absurd rfl c0
  · refine WL.on rfl rfl ?_
    refine WL.move rfl rfl ?_
    refine WL.on rfl rfl ?_
    refine WL.neI rfl rfl rfl ?_
    refine WL.pickF rfl rfl rfl ?_
    refine WL.nil ?_
    refine WX.next ?_
    refine W.sub [(0, _), (3, _), (5, _), (36, _)] (.cons rfl (.cons rfl (.cons rfl (.cons rfl .nil)))) ?_
    refine W.ite rfl (fun c1 => ?_) (fun c1 => ?_)
    · exact absurd rfl c1
    · refine W.skip ?_
      refine WX.next ?_
      refine W.seq ?_
      refine W.seq ?_
      refine W.region ?_
      refine WL.assign rfl rfl ?_
      refine WL.nil ?_
      refine WX.next ?_
      refine W.sub [(0, _), (3, _), (5, _), (7, _)] (.cons rfl (.cons rfl (.cons rfl (.cons rfl .nil)))) ?_
      refine W.block ?_
      refine W.loop (ι := Nat × List UInt8 × List Pl) (fun z => [(0, .pointer (some ⟨g, 0, none⟩)), (3, .slice D ms.length cd), (5, .slice E nx.length ce), (7, .int .i64 (z.1 : Int))]) (fun zz w => Mem w0 w ((fun z => Asr.row g 33 (.int .u32 (up : Int) :: .slice A ps.length cap :: bs z.2.1) :: Asr.lst moveE D cd ms :: Asr.lst placeE E ce nx :: Asr.star (nx.map PlX.O) :: L') zz) ∧ (fun z => z.1 ≤ ms.length ∧ Moves z.2.2 (ms.drop z.1) qs ∧ Farm up z.2.2 z.2.1 want lost) zz) (fun z => ms.length - z.1) ((0, cp, ps.map PlX.key)) (by (repeat' (first | exact envSub.nil | refine envSub.cons ?_ ?_)) <;> first | rfl | (refine congrArg some ?_; refine congrArg (Value.int _) ?_; first | omega | (dsimp only; omega)) | (simp; done) | (refine congrArg some ?_; dsimp only; congr 1; omega) | (simp; omega)) ⟨M.sel (by first | ((repeat (first | with_reducible exact Sel.refl | with_reducible exact Sel.nil | with_reducible exact Del.here | with_reducible apply Del.there | with_reducible apply Sel.cons | with_reducible apply Sel.drop)); done) | (repeat (first | exact Sel.refl | exact Sel.nil | exact Del.here | apply Del.there | apply Sel.cons | apply Sel.drop))), ⟨Nat.zero_le _, hmv, F⟩⟩ ?_
      clear M; rintro (⟨j, cq, rs⟩) w ⟨M, ⟨hj, hmw, Fw⟩⟩; dsimp only at M hj hmw Fw ⊢
      refine W.sub [(0, _), (3, _), (5, _), (7, _)] (.cons rfl (.cons rfl (.cons rfl (.cons rfl .nil)))) ?_
      refine W.seq ?_
      refine W.seq ?_
      refine W.region ?_
      refine WL.move rfl rfl ?_
      refine WL.move rfl rfl ?_
      refine WL.len Try.underlying56 rfl rfl ?_
      refine WL.lss rfl rfl rfl ?_
      refine WL.nil ?_
      refine WX.next ?_
      refine W.sub [(0, _), (3, _), (5, _), (7, _), (40, _)] (.cons rfl (.cons rfl (.cons rfl (.cons rfl (.cons rfl .nil))))) ?_
      refine W.ite rfl (fun c2 => ?_) (fun c2 => ?_)
      · have hjl : j < ms.length := by omega
        have hto2 := hto _ (el_mem hjl)
        have hdrop : ms.drop j = el ms j :: ms.drop (j + 1) := by
          rw [List.drop_eq_getElem_cons hjl]
          simp [el, hjl]
        rw [hdrop] at hmw
        obtain ⟨hmay, hmw2⟩ := hmw
        have F3 := Fw.move hmay hto2
        obtain ⟨c, hc4, ec, _⟩ := Fw.at_ hmay
        obtain ⟨f, hf5, ef⟩ := Fw.from_ hmay
        obtain ⟨t, et⟩ : ∃ t : Nat, (el ms j).to_ = (t : Int) := ⟨(el ms j).to_.toNat, by omega⟩
        have ht5 : t < 5 := by omega
        have hcq := Fw.cpl
        rw [ec, ef, et] at F3
        simp only [Int.toNat_natCast] at F3
        have hl6 : ((cq.drop (cAt f c 0)).take 6).length = 6 := by rw [List.length_take, List.length_drop, hcq]; unfold cAt; omega
        refine W.skip ?_
        refine WX.next ?_
        refine W.seq ?_
        refine W.block ?_
        refine W.seq ?_
        refine W.region ?_
        refine WL.move rfl rfl ?_
        refine WL.move rfl rfl ?_
        refine WL.idxA Try.underlying56 Try.sizeOf62 rfl rfl (RdL.isSome (E := moveE) (by first | with_reducible assumption | with_reducible exact RdL.mem (by with_reducible assumption) M | exact M.rdL (by first | ((repeat (first | with_reducible exact Has.here | with_reducible refine Has.there ?_)); done) | (repeat (first | exact Has.here | refine Has.there ?_))) | exact RdLH.at (by assumption) (M.sel (by first | ((repeat (first | with_reducible exact Sel.refl | with_reducible exact Sel.nil | with_reducible exact Del.here | with_reducible apply Del.there | with_reducible apply Sel.cons | with_reducible apply Sel.drop)); done) | (repeat (first | exact Sel.refl | exact Sel.nil | exact Del.here | apply Del.there | apply Sel.cons | apply Sel.drop)))) | exact RdL.nil _ _ _) (by omega)) (by omega) (by omega) (by first | exact rfl | exact (Int.toNat_of_nonneg (by omega)).symm) rfl ?_
        refine WL.loadL (E := moveE) (cs := [_, _, _]) Try.isAgg62 Try.sizeOf62 rfl (by first | with_reducible assumption | with_reducible exact RdL.mem (by with_reducible assumption) M | exact M.rdL (by first | ((repeat (first | with_reducible exact Has.here | with_reducible refine Has.there ?_)); done) | (repeat (first | exact Has.here | refine Has.there ?_))) | exact RdLH.at (by assumption) (M.sel (by first | ((repeat (first | with_reducible exact Sel.refl | with_reducible exact Sel.nil | with_reducible exact Del.here | with_reducible apply Del.there | with_reducible apply Sel.cons | with_reducible apply Sel.drop)); done) | (repeat (first | exact Sel.refl | exact Sel.nil | exact Del.here | apply Del.there | apply Sel.cons | apply Sel.drop)))) | exact RdL.nil _ _ _) rfl (by omega) rfl rfl ?_
        refine WL.alloc Try.zeroValue62 M rfl ?_
        intro g8_4 w M
        try simp only [Value.cells] at M
        try simp only [List.toList_toArray] at M
        refine WL.storeWA Try.sizeOf62 rfl rfl (by repeat (first | exact oneNil | refine oneCons rfl ?_)) rfl rfl M (by first | ((repeat (first | with_reducible exact Upd.here | with_reducible apply Upd.there)); done) | (repeat (first | exact Upd.here | apply Upd.there))) ?_
        intro w M
        refine WL.nil ?_
        refine WX.next ?_
        refine W.sub [(0, _), (3, _), (5, _), (7, _), (8, _)] (.cons rfl (.cons rfl (.cons rfl (.cons rfl (.cons rfl .nil))))) ?_
        refine W.seq ?_
        refine W.seq ?_
        refine W.region ?_
        refine WL.fieldR (off := 0) Try.underlying62 rfl rfl Try.sizeOf3 rfl rfl rfl ?_
        refine WL.loadR Try.isAgg3 rfl M (by first | ((repeat (first | with_reducible exact Has.here | with_reducible refine Has.there ?_)); done) | (repeat (first | exact Has.here | refine Has.there ?_))) rfl rfl ?_
        refine WL.lss rfl rfl rfl ?_
        refine WL.moveIf rfl rfl (fun c3 => ?_) (fun c3 => ?_)
        · exact absurd c3 (by omega)
        · refine WL.on rfl rfl ?_
          refine WL.fieldR (off := 0) Try.underlying62 rfl rfl Try.sizeOf3 rfl rfl rfl ?_
          refine WL.on rfl rfl ?_
          refine WL.loadR Try.isAgg3 rfl M (by first | ((repeat (first | with_reducible exact Has.here | with_reducible refine Has.there ?_)); done) | (repeat (first | exact Has.here | refine Has.there ?_))) rfl rfl ?_
          refine WL.on rfl rfl ?_
          refine WL.gtr rfl rfl rfl ?_
          refine WL.pickF rfl rfl rfl ?_
          refine WL.moveIf rfl rfl (fun c4 => ?_) (fun c4 => ?_)
          · exact absurd c4 (by omega)
          · refine WL.on rfl rfl ?_
            refine WL.fieldR (off := 1) Try.underlying62 rfl rfl Try.sizeOf3 rfl rfl rfl ?_
            refine WL.on rfl rfl ?_
            refine WL.loadR Try.isAgg3 rfl M (by first | ((repeat (first | with_reducible exact Has.here | with_reducible refine Has.there ?_)); done) | (repeat (first | exact Has.here | refine Has.there ?_))) rfl rfl ?_
            refine WL.on rfl rfl ?_
            refine WL.lss rfl rfl rfl ?_
            refine WL.pickF rfl rfl rfl ?_
            refine WL.moveIf rfl rfl (fun c5 => ?_) (fun c5 => ?_)
            · exact absurd c5 (by omega)
            · refine WL.on rfl rfl ?_
              refine WL.fieldR (off := 1) Try.underlying62 rfl rfl Try.sizeOf3 rfl rfl rfl ?_
              refine WL.on rfl rfl ?_
              refine WL.loadR Try.isAgg3 rfl M (by first | ((repeat (first | with_reducible exact Has.here | with_reducible refine Has.there ?_)); done) | (repeat (first | exact Has.here | refine Has.there ?_))) rfl rfl ?_
              refine WL.on rfl rfl ?_
              refine WL.gtr rfl rfl rfl ?_
              refine WL.pickF rfl rfl rfl ?_
              refine WL.moveIf rfl rfl (fun c6 => ?_) (fun c6 => ?_)
              · exact absurd c6 (by omega)
              · refine WL.on rfl rfl ?_
                refine WL.fieldR (off := 2) Try.underlying62 rfl rfl Try.sizeOf3 rfl rfl rfl ?_
                refine WL.on rfl rfl ?_
                refine WL.loadR Try.isAgg3 rfl M (by first | ((repeat (first | with_reducible exact Has.here | with_reducible refine Has.there ?_)); done) | (repeat (first | exact Has.here | refine Has.there ?_))) rfl rfl ?_
                refine WL.on rfl rfl ?_
                refine WL.lss rfl rfl rfl ?_
                refine WL.pickF rfl rfl rfl ?_
                refine WL.moveIf rfl rfl (fun c7 => ?_) (fun c7 => ?_)
                · exact absurd c7 (by omega)
                · refine WL.on rfl rfl ?_
                  refine WL.fieldR (off := 2) Try.underlying62 rfl rfl Try.sizeOf3 rfl rfl rfl ?_
                  refine WL.on rfl rfl ?_
                  refine WL.loadR Try.isAgg3 rfl M (by first | ((repeat (first | with_reducible exact Has.here | with_reducible refine Has.there ?_)); done) | (repeat (first | exact Has.here | refine Has.there ?_))) rfl rfl ?_
                  refine WL.on rfl rfl ?_
                  refine WL.gtr rfl rfl rfl ?_
                  refine WL.pickF rfl rfl rfl ?_
                  refine WL.nil ?_
                  refine WX.next ?_
                  refine W.sub [(0, _), (3, _), (5, _), (7, _), (8, _), (74, _)] (.cons rfl (.cons rfl (.cons rfl (.cons rfl (.cons rfl (.cons rfl .nil)))))) ?_
                  refine W.ite rfl (fun c8 => ?_) (fun c8 => ?_)
                  · exact absurd c8 (by omega)
                  · refine W.skip ?_
                    refine WX.next ?_
                    refine W.drawM ([Asr.row g8_4 62 [.int .i64 (el ms j).chunk, .int .i64 (el ms j).from_, .int .i64 (el ms j).to_], Asr.row g 33 (.int .u32 (up : Int) :: .slice A ps.length cap :: bs cq)]) (by kernel_rfl) (fun j => [2, 4, 7, 9, 12, 13, 14, 17].contains j) M (by first | ((repeat (first | with_reducible exact Sel.refl | with_reducible exact Sel.nil | with_reducible exact Del.here | with_reducible apply Del.there | with_reducible apply Sel.cons | with_reducible apply Sel.drop)); done) | (repeat (first | exact Sel.refl | exact Sel.nil | exact Del.here | apply Del.there | apply Sel.cons | apply Sel.drop))) ?_
                    clear M; intro M
                    apply DG.pure_ [0, 1, 3, 5, 6, 8, 10, 11, 15, 16] 10 rfl (by kernel_rfl) (by kernel_rfl)
                    · intro w
                      refine WL.move rfl rfl ?_
                      refine WL.fieldR (off := 2) Try.underlying62 rfl rfl Try.sizeOf3 rfl rfl rfl ?_
                      refine WL.fieldR (off := 0) Try.underlying62 rfl rfl Try.sizeOf3 rfl rfl rfl ?_
                      refine WL.move rfl rfl ?_
                      refine WL.fieldR (off := 1) Try.underlying62 rfl rfl Try.sizeOf3 rfl rfl rfl ?_
                      refine WL.fieldR (off := 0) Try.underlying62 rfl rfl Try.sizeOf3 rfl rfl rfl ?_
                      refine WL.nilCheck rfl rfl ?_
                      refine WL.fieldR (off := 2) Try.underlying33 rfl rfl Try.sizeOf31 rfl rfl rfl ?_
                      refine WL.nilCheck rfl rfl ?_
                      refine WL.fieldR (off := 2) Try.underlying33 rfl rfl Try.sizeOf31 rfl rfl rfl ?_
                      exact Chain.end_ rfl
                    apply DG.take [2, 4, 7, 9, 12, 13, 14, 17, 18] 1 rfl (by kernel_rfl) (by kernel_rfl) (M.sel (by first | ((repeat (first | with_reducible exact Sel.refl | with_reducible exact Sel.nil | with_reducible exact Del.here | with_reducible apply Del.there | with_reducible apply Sel.cons | with_reducible apply Sel.drop)); done) | (repeat (first | exact Sel.refl | exact Sel.nil | exact Del.here | apply Del.there | apply Sel.cons | apply Sel.drop))))
                    · intro w M
                      refine WL.loadR Try.isAgg3 rfl M (by first | ((repeat (first | with_reducible exact Has.here | with_reducible refine Has.there ?_)); done) | (repeat (first | exact Has.here | refine Has.there ?_))) rfl rfl ?_
                      refine WL.loadR Try.isAgg3 rfl M (by first | ((repeat (first | with_reducible exact Has.here | with_reducible refine Has.there ?_)); done) | (repeat (first | exact Has.here | refine Has.there ?_))) rfl rfl ?_
                      refine WL.loadR Try.isAgg3 rfl M (by first | ((repeat (first | with_reducible exact Has.here | with_reducible refine Has.there ?_)); done) | (repeat (first | exact Has.here | refine Has.there ?_))) rfl rfl ?_
                      refine WL.loadR Try.isAgg3 rfl M (by first | ((repeat (first | with_reducible exact Has.here | with_reducible refine Has.there ?_)); done) | (repeat (first | exact Has.here | refine Has.there ?_))) rfl rfl ?_
                      refine WL.idxArrR Try.underlying31 Try.sizeOf30 rfl rfl (by omega) (by omega) ef rfl ?_
                      refine WL.idxArrR Try.underlying30 Try.sizeOf29 rfl rfl (by omega) (by omega) ec rfl ?_
                      refine WL.loadSub (ss := bs ((cq.drop (cAt f c 0)).take 6)) Try.isAgg29 Try.sizeOf29 rfl M (by first | ((repeat (first | with_reducible exact Has.here | with_reducible refine Has.there ?_)); done) | (repeat (first | exact Has.here | refine Has.there ?_))) (cells_part f c) (by rw [bs_length]; exact hl6) rfl ?_
                      refine WL.idxArrR Try.underlying31 Try.sizeOf30 rfl rfl (by omega) (by omega) et rfl ?_
                      refine WL.idxArrR Try.underlying30 Try.sizeOf29 rfl rfl (by omega) (by omega) ec rfl ?_
                      exact Chain.end_ rfl
                    refine DG.step 19 0 rfl (by kernel_rfl) ?_
                    refine WL.storeSub (vs := bs ((cq.drop (cAt f c 0)).take 6)) Try.sizeOf29 rfl rfl bs_one (by rw [bs_length]; exact hl6) (by simp only [List.length_cons, bs_length, hcq]; omega) (cells_move f t c) M (by first | ((repeat (first | with_reducible exact Upd.here | with_reducible apply Upd.there)); done) | (repeat (first | exact Upd.here | apply Upd.there))) ?_
                    intro w M
                    refine DG.go (G := fun j => [2, 4, 7, 9, 12, 13, 14, 17].contains j) (i := 19) (f' := 0) (done := [0, 1, 3, 5, 6, 8, 10, 11, 15, 16, 2, 4, 7, 9, 12, 13, 14, 17, 18]) (fun h => by cases h) ?_
                    refine DG.end_ (by kernel_rfl) ?_
                    refine WX.blockNormal ?_
                    refine WX.next ?_
                    refine W.sub [(0, _), (3, _), (5, _), (7, _)] (.cons rfl (.cons rfl (.cons rfl (.cons rfl .nil)))) ?_
                    refine W.region ?_
                    refine WL.move rfl rfl ?_
                    refine WL.add rfl rfl (by first | exact wI64 (by omega) | rfl) rfl ?_
                    refine WL.assign rfl rfl ?_
                    refine WL.nil ?_
                    refine WX.round ((j + 1, cpMove cq f t c, doM rs (el ms j))) (by (repeat' (first | exact envSub.nil | refine envSub.cons ?_ ?_)) <;> first | rfl | (refine congrArg some ?_; refine congrArg (Value.int _) ?_; first | omega | (dsimp only; omega)) | (simp; done) | (refine congrArg some ?_; dsimp only; congr 1; omega) | (simp; omega)) ⟨M.sel (by first | ((repeat (first | with_reducible exact Sel.refl | with_reducible exact Sel.nil | with_reducible exact Del.here | with_reducible apply Del.there | with_reducible apply Sel.cons | with_reducible apply Sel.drop)); done) | (repeat (first | exact Sel.refl | exact Sel.nil | exact Del.here | apply Del.there | apply Sel.cons | apply Sel.drop))), ⟨by dsimp only; omega, hmw2, F3⟩⟩ (by first | omega | (dsimp only; omega))
      · obtain rfl : j = ms.length := by omega
        rw [List.drop_length] at hmw
        have hrs : rs = nx.map PlX.key := by rw [hnx]; exact hmw
        subst hrs
        refine W.exit ?_
        refine WX.thenExit ?_
        refine WX.thenExit ?_
        refine WX.blockHere ?_
        refine WX.next ?_
        refine W.seq ?_
        refine W.region ?_
        refine WL.move rfl rfl ?_
        refine WL.move rfl rfl ?_
        refine WL.nilCheck rfl rfl ?_
        refine WL.fieldR (off := 1) Try.underlying33 rfl rfl Try.sizeOf28 rfl rfl rfl ?_
        refine WL.storeR Try.sizeOf28 rfl rfl rfl M (by first | ((repeat (first | with_reducible exact Has.here | with_reducible refine Has.there ?_)); done) | (repeat (first | exact Has.here | refine Has.there ?_))) (by repeat (first | exact SetAt.zero | apply SetAt.succ)) (by first | ((repeat (first | with_reducible exact Upd.here | with_reducible apply Upd.there)); done) | (repeat (first | exact Upd.here | apply Upd.there))) ?_
        intro w M
        refine WL.nil ?_
        refine WX.next ?_
        refine W.sub [] .nil ?_
        refine W.seq ?_
        refine W.region ?_
        refine WL.assign rfl rfl ?_
        refine WL.nil ?_
        refine WX.next ?_
        refine W.sub [(2, _)] (.cons rfl .nil) ?_
        refine W.ret ?_
        refine WX.ret1 rfl rfl ?_
        refine ⟨rfl, E, ce, nx, cq, Fw, fun c hc => ?_, M.sel (by first | ((repeat (first | with_reducible exact Sel.refl | with_reducible exact Sel.nil | with_reducible exact Del.here | with_reducible apply Del.there | with_reducible apply Sel.cons | with_reducible apply Sel.drop)); done) | (repeat (first | exact Sel.refl | exact Sel.nil | exact Del.here | apply Del.there | apply Sel.cons | apply Sel.drop)))⟩
        rw [hnx]
        exact (hhe c (by omega)).full
end Go.Proofs.Ytcmlehggfkjagaa
