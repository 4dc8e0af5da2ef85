/-
  Walks: the document's commands (seawallref19): Print, Parse.
-/
import Derived.Test.YtinbcidgdbmcjaaCdb4
namespace Go.Proofs.Ytinbcidgdbmcjaa
open Go Go.RowKit Bin

theorem fm_of_kind (op : Int) : (kindC op = 0 → fmOf op = ⟨op, 0, 0, 0, 0, 0, 0, 0⟩) ∧ (kindC op = 1 → fmOf op = ⟨op, 0, 0, 0, 0, 3, 2, 0⟩) ∧ (kindC op = 2 → fmOf op = ⟨op, 2, 4, 7, 2, 0, 0, 0⟩) ∧ (kindC op = 3 → fmOf op = ⟨op, 2, 8, 10, 4, 0, 0, 0⟩) ∧ (kindC op = 4 → fmOf op = ⟨op, 0, 0, 0, 0, 10, 4, 16⟩) := by
  unfold kindC fmOf
  by_cases h0 : op = 0 ∨ op = 37
  · simp [h0]
  · simp only [if_neg h0]
    by_cases h1 : op = 18
    · simp [h1]
    · simp only [if_neg h1]
      by_cases h2 : op = 40 ∨ op = 42 ∨ op = 53
      · simp [h2]
      · simp only [if_neg h2]
        by_cases h3 : op = 136 ∨ op = 138
        · simp [h3]
        · simp only [if_neg h3]
          by_cases h4 : op = 158
          · simp [h4]
          · simp [h4]
theorem prB_kind (c : CmX) : (kindC c.op = 0 → prB c = [u8 c.op] ++ List.replicate 15 0) ∧ (kindC c.op = 1 → prB c = ([u8 c.op] ++ ([0, 0] ++ (nb c.room.toNat 2 ++ []))) ++ List.replicate 11 0) ∧ (kindC c.op = 2 → prB c = ([u8 c.op] ++ ([0] ++ (nb c.lba 4 ++ ([0] ++ (nb c.count.toNat 2 ++ []))))) ++ List.replicate 7 0) ∧
    (kindC c.op = 3 → prB c = ([u8 c.op] ++ ([0] ++ (nb c.lba 8 ++ (nb c.count.toNat 4 ++ [])))) ++ List.replicate 2 0) ∧ (kindC c.op = 4 → prB c = ([u8 c.op] ++ ([16] ++ (nb 0 8 ++ (nb c.room.toNat 4 ++ [])))) ++ List.replicate 2 0) := by
  obtain ⟨f0, f1, f2, f3, f4⟩ := fm_of_kind c.op
  unfold prB
  refine ⟨fun h => ?_, fun h => ?_, fun h => ?_, fun h => ?_, fun h => ?_⟩
  · rw [f0 h]
    rfl
  · rw [f1 h]
    rfl
  · rw [f2 h]
    rfl
  · rw [f3 h]
    rfl
  · rw [f4 h]
    rfl
theorem sub_take16 {b : List UInt8} {a n : Nat} (h : a + n ≤ 16) : sub (b.take 16) a (a + n) = sub b a (a + n) := by
  unfold sub
  rw [List.drop_take, List.take_take, Nat.min_eq_left (by omega)]
theorem one_len (b : UInt8) : ([b] : List UInt8).length = 1 := rfl
set_option maxRecDepth 10000 in
set_option maxHeartbeats 2000000 in
theorem refPrint_ok (c : CmX) (hc : c.inn) (w0 : World) : Fn Try.prog 23 [c.v] w0 fun v w' => ∃ x : OX, v = .tuple #[x.v, .int .i64 (chkC c)] ∧ Mem w0 w' [x.O] ∧ x.l = if chkC c = 0 then prB c else [] := by
  have M := Mem.refl w0
  obtain ⟨w, hw⟩ : ∃ w, w = w0 := ⟨w0, rfl⟩
  obtain ⟨p0, p1, p2, p3, p4⟩ := prB_kind c
  obtain ⟨op, lba, ct, rm⟩ := c
  have hc2 := hc
  obtain ⟨b1, b2, b3⟩ := hc2
  unfold CmX.v
  dsimp only at b1 b2 b3 p0 p1 p2 p3 p4 ⊢
  refine Fn.enter Try.func23 rfl Try.ntmps23 rfl ?_
  refine W.sub [(0, _)] (.cons rfl .nil) ?_
  refine W.seq ?_
  refine W.region ?_
  refine WL.box rfl M rfl ?_
  intro g0_0 w M
  try simp only [Value.cells] at M
  try simp only [List.toList_toArray] at M
  refine WL.assign rfl rfl ?_
  refine WL.assign rfl rfl ?_
  refine WL.nil ?_
  refine WX.next ?_
  refine W.sub [(1, _)] (.cons rfl .nil) ?_
  refine W.seq ?_
  refine W.region ?_
  refine WL.loadW Try.isAgg36 Try.sizeOf36 rfl M (by first | ((repeat (first | with_reducible exact Has.here | with_reducible refine Has.there ?_)); done) | (repeat (first | exact Has.here | refine Has.there ?_))) rfl rfl ?_
  refine WL.call Try.call44 rfl (refCheck19_ok ⟨op, lba, ct, rm⟩ hc _) rfl ?_
  rintro _ w ⟨rfl, m⟩
  replace M := M.call0 m; clear m
  refine WL.assign rfl rfl ?_
  refine WL.nil ?_
  refine WX.next ?_
  refine W.sub [(1, _), (4, _)] (.cons rfl (.cons rfl .nil)) ?_
  refine W.seq ?_
  refine W.seq ?_
  refine W.region ?_
  refine WL.move rfl rfl ?_
  refine WL.neI rfl rfl rfl ?_
  refine WL.nil ?_
  refine WX.next ?_
  refine W.sub [(1, _), (4, _), (10, _)] (.cons rfl (.cons rfl (.cons rfl .nil))) ?_
  refine W.ite rfl (fun c0 => ?_) (fun c0 => ?_)
  · refine W.seq ?_
    refine W.region ?_
    refine WL.move rfl rfl ?_
    refine WL.assign rfl rfl ?_
    refine WL.assign rfl rfl ?_
    refine WL.nil ?_
    refine WX.next ?_
    refine W.sub [(2, _), (3, _)] (.cons rfl (.cons rfl .nil)) ?_
    refine W.ret ?_
    refine WX.thenRet ?_
    refine WX.ret2 rfl rfl rfl ?_
    exact ⟨⟨none, 0, []⟩, rfl, (M.nilOwn 5 1).sel (by first | ((repeat (first | with_reducible exact Sel.refl | with_reducible exact Sel.nil | with_reducible exact Del.here | with_reducible apply Del.there | with_reducible apply Sel.cons | with_reducible apply Sel.drop)); done) | (repeat (first | exact Sel.refl | exact Sel.nil | exact Del.here | apply Del.there | apply Sel.cons | apply Sel.drop))), by rw [if_neg c0]⟩
  · have hc0 : chkC ⟨op, lba, ct, rm⟩ = 0 := Classical.not_not.1 c0
    obtain ⟨z1, z2, z3, z4, z5, z6⟩ := chkC_zero hc0
    have z7 := kind_le z1
    dsimp only at z1 z2 z3 z4 z5 z6 z7
    have zc := maxCt_le (kindC op)
    have zr := maxRm_le (kindC op)
    have hkk := kindC_cases op
    rw [hc0, if_pos rfl]
    have hcu : IntKind.u64.wrap ct = (ct.toNat : Int) := by rw [wU64 (by omega)]; omega
    have hru : IntKind.u64.wrap rm = (rm.toNat : Int) := by rw [wU64 (by omega)]; omega
    refine W.skip ?_
    refine WX.next ?_
    refine W.seq ?_
    refine W.region ?_
    refine WL.fieldR (off := 0) Try.underlying36 rfl rfl Try.sizeOf3 rfl rfl rfl ?_
    refine WL.loadR Try.isAgg3 rfl M (by first | ((repeat (first | with_reducible exact Has.here | with_reducible refine Has.there ?_)); done) | (repeat (first | exact Has.here | refine Has.there ?_))) rfl rfl ?_
    refine WL.conv Try.underlying3 Try.underlying5 rfl (by first | exact wU8 (by omega) | exact mU8 _ | rfl) rfl ?_
    refine WL.buildB (es := [_]) Try.elem5 M rfl rfl (by (first | apply BytesOf.nat | apply BytesOf.any (by omega)); exact BytesOf.nil) (by rfl) rfl rfl ?_
    intro g4_3 w M
    refine WL.assign rfl rfl ?_
    refine WL.nil ?_
    refine WX.next ?_
    refine W.sub [(1, _), (5, _)] (.cons rfl (.cons rfl .nil)) ?_
    refine W.seq ?_
    refine W.region ?_
    refine WL.buildB (es := [_]) Try.elem5 M rfl rfl (by apply BytesOf.lit (b := 0) (by decide); exact BytesOf.nil) (by rfl) rfl rfl ?_
    intro g5_0 w M
    refine WL.assign rfl rfl ?_
    refine WL.nil ?_
    refine WX.next ?_
    refine W.sub [(1, _), (5, _), (6, _)] (.cons rfl (.cons rfl (.cons rfl .nil))) ?_
    refine W.seq ?_
    refine W.seq ?_
    refine W.region ?_
    refine WL.fieldR (off := 0) Try.underlying36 rfl rfl Try.sizeOf3 rfl rfl rfl ?_
    refine WL.loadR Try.isAgg3 rfl M (by first | ((repeat (first | with_reducible exact Has.here | with_reducible refine Has.there ?_)); done) | (repeat (first | exact Has.here | refine Has.there ?_))) rfl rfl ?_
    refine WL.call Try.call45 rfl (refKind_ok op _) rfl ?_
    rintro _ _ ⟨rfl, rfl⟩
    refine WL.nil ?_
    refine WX.next ?_
    refine W.sub [(1, _), (5, _), (6, _), (19, _)] (.cons rfl (.cons rfl (.cons rfl (.cons rfl .nil)))) ?_
    refine W.block ?_
    refine W.seq ?_
    refine W.region ?_
    refine WL.eqI rfl rfl rfl ?_
    refine WL.assign rfl rfl ?_
    refine WL.nil ?_
    refine WX.next ?_
    refine W.sub [(1, _), (5, _), (6, _), (19, _), (20, _)] (.cons rfl (.cons rfl (.cons rfl (.cons rfl (.cons rfl .nil))))) ?_
    refine W.ite rfl (fun c1 => ?_) (fun c1 => ?_)
    · refine W.seq ?_
      refine W.region ?_
      refine WL.move rfl rfl ?_
      refine WL.buildB (es := [_, _]) Try.elem5 M rfl rfl (by apply BytesOf.lit (b := 0) (by decide); apply BytesOf.lit (b := 0) (by decide); exact BytesOf.nil) (by rfl) rfl rfl ?_
      intro g8_1 w M
      refine WL.fieldR (off := 3) Try.underlying36 rfl rfl Try.sizeOf3 rfl rfl rfl ?_
      refine WL.loadR Try.isAgg3 rfl M (by first | ((repeat (first | with_reducible exact Has.here | with_reducible refine Has.there ?_)); done) | (repeat (first | exact Has.here | refine Has.there ?_))) rfl rfl ?_
      refine WL.conv Try.underlying3 Try.underlying22 rfl hru rfl ?_
      refine WL.call Try.call37 rfl (refPut19_ok rm.toNat 2 (z := 2) rfl (by omega) (by decide) _) rfl ?_
      rintro _ w ⟨⟨A8, c8', x8⟩, rfl, h8, m⟩
      replace M := M.call1 m; clear m
      unfold OX.v
      unfold OX.O at M
      dsimp only at h8 M ⊢
      have hl8 : x8.length = 2 := by rw [h8, nb_length]
      refine WL.buildL (E := oxE) (l := [⟨some ⟨g4_3, 0, none⟩, 1, [u8 op]⟩, ⟨some ⟨g8_1, 0, none⟩, 2, [0, 0]⟩, ⟨A8, c8', x8⟩]) Try.elem25 M rfl rfl rfl rfl rfl rfl ?_
      intro g8_6 w M
      refine WL.call Try.call46 rfl (join_ok (xs := [⟨some ⟨g4_3, 0, none⟩, 1, [u8 op]⟩, ⟨some ⟨g8_1, 0, none⟩, 2, [0, 0]⟩, ⟨A8, c8', x8⟩]) rfl 16 rfl (by decide) (by first | (simp; done) | (simp; omega)) (by simp) (M.rdL (by first | ((repeat (first | with_reducible exact Has.here | with_reducible refine Has.there ?_)); done) | (repeat (first | exact Has.here | refine Has.there ?_)))) (by intro x hx; simp only [List.mem_cons, List.not_mem_nil, or_false] at hx; rcases hx with rfl | rfl | rfl <;> exact M.rdB (by first | ((repeat (first | with_reducible exact Has.here | with_reducible refine Has.there ?_)); done) | (repeat (first | exact Has.here | refine Has.there ?_))))) rfl ?_
      rintro _ w ⟨⟨Y, cY, y⟩, rfl, hy, m⟩
      replace M := M.call1 m; clear m
      unfold OX.v
      unfold OX.O at M
      dsimp only at hy M ⊢
      refine WL.assign rfl rfl ?_
      refine WL.assign rfl rfl ?_
      refine WL.nil ?_
      refine WX.next ?_
      refine W.sub [(2, _), (3, _)] (.cons rfl (.cons rfl .nil)) ?_
      refine W.ret ?_
      refine WX.blockRet ?_
      refine WX.thenRet ?_
      refine WX.ret2 rfl rfl rfl ?_
      exact ⟨⟨Y, cY, y⟩, rfl, M.sel (by first | ((repeat (first | with_reducible exact Sel.refl | with_reducible exact Sel.nil | with_reducible exact Del.here | with_reducible apply Del.there | with_reducible apply Sel.cons | with_reducible apply Sel.drop)); done) | (repeat (first | exact Sel.refl | exact Sel.nil | exact Del.here | apply Del.there | apply Sel.cons | apply Sel.drop))), by dsimp only; rw [p1 c1, hy, ← h8]; simp [hl8]⟩
    · refine W.seq ?_
      refine W.region ?_
      refine WL.eqI rfl rfl rfl ?_
      refine WL.assign rfl rfl ?_
      refine WL.nil ?_
      refine WX.next ?_
      refine W.sub [(1, _), (5, _), (6, _), (19, _), (30, _)] (.cons rfl (.cons rfl (.cons rfl (.cons rfl (.cons rfl .nil))))) ?_
      refine W.ite rfl (fun c2 => ?_) (fun c2 => ?_)
      · refine W.seq ?_
        refine W.drawM (_) (by kernel_rfl) (fun j => [3, 4, 7, 8].contains j) M Sel.refl ?_
        clear M; intro M
        apply DG.pure_ [0, 1, 2, 5, 6] 9 rfl (by kernel_rfl) (by kernel_rfl)
        · intro w
          refine WL.move rfl rfl ?_
          refine WL.move rfl rfl ?_
          refine WL.fieldR (off := 1) Try.underlying36 rfl rfl Try.sizeOf22 rfl rfl rfl ?_
          refine WL.move rfl rfl ?_
          refine WL.fieldR (off := 2) Try.underlying36 rfl rfl Try.sizeOf3 rfl rfl rfl ?_
          exact Chain.end_ rfl
        apply DG.take [3, 7, 8] 6 rfl (by kernel_rfl) (by kernel_rfl) (M.sel (by first | ((repeat (first | with_reducible exact Sel.refl | with_reducible exact Sel.nil | with_reducible exact Del.here | with_reducible apply Del.there | with_reducible apply Sel.cons | with_reducible apply Sel.drop)); done) | (repeat (first | exact Sel.refl | exact Sel.nil | exact Del.here | apply Del.there | apply Sel.cons | apply Sel.drop))))
        · intro w M
          refine WL.loadR Try.isAgg22 rfl M (by first | ((repeat (first | with_reducible exact Has.here | with_reducible refine Has.there ?_)); done) | (repeat (first | exact Has.here | refine Has.there ?_))) rfl rfl ?_
          refine WL.loadR Try.isAgg3 rfl M (by first | ((repeat (first | with_reducible exact Has.here | with_reducible refine Has.there ?_)); done) | (repeat (first | exact Has.here | refine Has.there ?_))) rfl rfl ?_
          refine WL.conv Try.underlying3 Try.underlying22 rfl hcu rfl ?_
          exact Chain.end_ rfl
        refine DG.step 4 5 rfl (by kernel_rfl) ?_
        refine WL.call Try.call37 rfl (refPut19_ok lba 4 (z := 4) rfl (b1) (by decide) _) rfl ?_
        rintro _ w ⟨⟨A10a, c10a', x10a⟩, rfl, h10a, m⟩
        replace M := M.call1 m; clear m
        unfold OX.v
        unfold OX.O at M
        dsimp only at h10a M ⊢
        have hl10a : x10a.length = 4 := by rw [h10a, nb_length]
        refine DG.go (G := fun j => [3, 4, 7, 8].contains j) (i := 4) (f' := 5) (done := [0, 1, 2, 5, 6, 3, 7, 8]) (fun _ => M.sel (by first | ((repeat (first | with_reducible exact Sel.refl | with_reducible exact Sel.nil | with_reducible exact Del.here | with_reducible apply Del.there | with_reducible apply Sel.cons | with_reducible apply Sel.drop)); done) | (repeat (first | exact Sel.refl | exact Sel.nil | exact Del.here | apply Del.there | apply Sel.cons | apply Sel.drop)))) ?_
        refine DG.step 9 4 rfl (by kernel_rfl) ?_
        refine WL.call Try.call37 rfl (refPut19_ok ct.toNat 2 (z := 2) rfl (by omega) (by decide) _) rfl ?_
        rintro _ w ⟨⟨A10b, c10b', x10b⟩, rfl, h10b, m⟩
        replace M := M.call1 m; clear m
        unfold OX.v
        unfold OX.O at M
        dsimp only at h10b M ⊢
        have hl10b : x10b.length = 2 := by rw [h10b, nb_length]
        refine DG.go (G := fun j => [3, 4, 7, 8].contains j) (i := 9) (f' := 4) (done := [0, 1, 2, 5, 6, 3, 7, 8, 4]) (fun h => by cases h) ?_
        refine DG.step 10 3 rfl (by kernel_rfl) ?_
        refine WL.buildL (E := oxE) (l := [⟨some ⟨g4_3, 0, none⟩, 1, [u8 op]⟩, ⟨some ⟨g5_0, 0, none⟩, 1, [0]⟩, ⟨A10a, c10a', x10a⟩, ⟨some ⟨g5_0, 0, none⟩, 1, [0]⟩, ⟨A10b, c10b', x10b⟩]) Try.elem25 M rfl rfl rfl rfl rfl rfl ?_
        intro g10_10 w M
        refine DG.go (G := fun j => [3, 4, 7, 8].contains j) (i := 10) (f' := 3) (done := [0, 1, 2, 5, 6, 3, 7, 8, 4, 9]) (fun h => by cases h) ?_
        refine DG.step 11 2 rfl (by kernel_rfl) ?_
        refine WL.call Try.call46 rfl (join_ok (xs := [⟨some ⟨g4_3, 0, none⟩, 1, [u8 op]⟩, ⟨some ⟨g5_0, 0, none⟩, 1, [0]⟩, ⟨A10a, c10a', x10a⟩, ⟨some ⟨g5_0, 0, none⟩, 1, [0]⟩, ⟨A10b, c10b', x10b⟩]) rfl 16 rfl (by decide) (by first | (simp; done) | (simp; omega)) (by simp) (M.rdL (by first | ((repeat (first | with_reducible exact Has.here | with_reducible refine Has.there ?_)); done) | (repeat (first | exact Has.here | refine Has.there ?_)))) (by intro x hx; simp only [List.mem_cons, List.not_mem_nil, or_false] at hx; rcases hx with rfl | rfl | rfl | rfl | rfl <;> exact M.rdB (by first | ((repeat (first | with_reducible exact Has.here | with_reducible refine Has.there ?_)); done) | (repeat (first | exact Has.here | refine Has.there ?_))))) rfl ?_
        rintro _ w ⟨⟨Y, cY, y⟩, rfl, hy, m⟩
        replace M := M.call1 m; clear m
        unfold OX.v
        unfold OX.O at M
        dsimp only at hy M ⊢
        refine DG.go (G := fun j => [3, 4, 7, 8].contains j) (i := 11) (f' := 2) (done := [0, 1, 2, 5, 6, 3, 7, 8, 4, 9, 10]) (fun h => by cases h) ?_
        apply DG.pure_ [12, 13] 0 rfl (by kernel_rfl) (by kernel_rfl)
        · intro w
          refine WL.assign rfl rfl ?_
          refine WL.assign rfl rfl ?_
          exact Chain.end_ rfl
        refine DG.end_ (by kernel_rfl) ?_
        refine WX.next ?_
        refine W.sub [(2, _), (3, _)] (.cons rfl (.cons rfl .nil)) ?_
        refine W.ret ?_
        refine WX.blockRet ?_
        refine WX.thenRet ?_
        refine WX.ret2 rfl rfl rfl ?_
        exact ⟨⟨Y, cY, y⟩, rfl, M.sel (by first | ((repeat (first | with_reducible exact Sel.refl | with_reducible exact Sel.nil | with_reducible exact Del.here | with_reducible apply Del.there | with_reducible apply Sel.cons | with_reducible apply Sel.drop)); done) | (repeat (first | exact Sel.refl | exact Sel.nil | exact Del.here | apply Del.there | apply Sel.cons | apply Sel.drop))), by dsimp only; rw [p2 c2, hy, ← h10a, ← h10b]; simp [hl10a, hl10b]⟩
      · refine W.seq ?_
        refine W.region ?_
        refine WL.eqI rfl rfl rfl ?_
        refine WL.assign rfl rfl ?_
        refine WL.nil ?_
        refine WX.next ?_
        refine W.sub [(1, _), (5, _), (6, _), (19, _), (44, _)] (.cons rfl (.cons rfl (.cons rfl (.cons rfl (.cons rfl .nil))))) ?_
        refine W.ite rfl (fun c3 => ?_) (fun c3 => ?_)
        · refine W.seq ?_
          refine W.drawM (_) (by kernel_rfl) (fun j => [3, 4, 6, 7].contains j) M Sel.refl ?_
          clear M; intro M
          apply DG.pure_ [0, 1, 2, 5] 9 rfl (by kernel_rfl) (by kernel_rfl)
          · intro w
            refine WL.move rfl rfl ?_
            refine WL.move rfl rfl ?_
            refine WL.fieldR (off := 1) Try.underlying36 rfl rfl Try.sizeOf22 rfl rfl rfl ?_
            refine WL.fieldR (off := 2) Try.underlying36 rfl rfl Try.sizeOf3 rfl rfl rfl ?_
            exact Chain.end_ rfl
          apply DG.take [3, 6, 7] 6 rfl (by kernel_rfl) (by kernel_rfl) (M.sel (by first | ((repeat (first | with_reducible exact Sel.refl | with_reducible exact Sel.nil | with_reducible exact Del.here | with_reducible apply Del.there | with_reducible apply Sel.cons | with_reducible apply Sel.drop)); done) | (repeat (first | exact Sel.refl | exact Sel.nil | exact Del.here | apply Del.there | apply Sel.cons | apply Sel.drop))))
          · intro w M
            refine WL.loadR Try.isAgg22 rfl M (by first | ((repeat (first | with_reducible exact Has.here | with_reducible refine Has.there ?_)); done) | (repeat (first | exact Has.here | refine Has.there ?_))) rfl rfl ?_
            refine WL.loadR Try.isAgg3 rfl M (by first | ((repeat (first | with_reducible exact Has.here | with_reducible refine Has.there ?_)); done) | (repeat (first | exact Has.here | refine Has.there ?_))) rfl rfl ?_
            refine WL.conv Try.underlying3 Try.underlying22 rfl hcu rfl ?_
            exact Chain.end_ rfl
          refine DG.step 4 5 rfl (by kernel_rfl) ?_
          refine WL.call Try.call37 rfl (refPut19_ok lba 8 (z := 8) rfl (b1) (by decide) _) rfl ?_
          rintro _ w ⟨⟨A12a, c12a', x12a⟩, rfl, h12a, m⟩
          replace M := M.call1 m; clear m
          unfold OX.v
          unfold OX.O at M
          dsimp only at h12a M ⊢
          have hl12a : x12a.length = 8 := by rw [h12a, nb_length]
          refine DG.go (G := fun j => [3, 4, 6, 7].contains j) (i := 4) (f' := 5) (done := [0, 1, 2, 5, 3, 6, 7]) (fun _ => M.sel (by first | ((repeat (first | with_reducible exact Sel.refl | with_reducible exact Sel.nil | with_reducible exact Del.here | with_reducible apply Del.there | with_reducible apply Sel.cons | with_reducible apply Sel.drop)); done) | (repeat (first | exact Sel.refl | exact Sel.nil | exact Del.here | apply Del.there | apply Sel.cons | apply Sel.drop)))) ?_
          refine DG.step 8 4 rfl (by kernel_rfl) ?_
          refine WL.call Try.call37 rfl (refPut19_ok ct.toNat 4 (z := 4) rfl (by omega) (by decide) _) rfl ?_
          rintro _ w ⟨⟨A12b, c12b', x12b⟩, rfl, h12b, m⟩
          replace M := M.call1 m; clear m
          unfold OX.v
          unfold OX.O at M
          dsimp only at h12b M ⊢
          have hl12b : x12b.length = 4 := by rw [h12b, nb_length]
          refine DG.go (G := fun j => [3, 4, 6, 7].contains j) (i := 8) (f' := 4) (done := [0, 1, 2, 5, 3, 6, 7, 4]) (fun h => by cases h) ?_
          refine DG.step 9 3 rfl (by kernel_rfl) ?_
          refine WL.buildL (E := oxE) (l := [⟨some ⟨g4_3, 0, none⟩, 1, [u8 op]⟩, ⟨some ⟨g5_0, 0, none⟩, 1, [0]⟩, ⟨A12a, c12a', x12a⟩, ⟨A12b, c12b', x12b⟩]) Try.elem25 M rfl rfl rfl rfl rfl rfl ?_
          intro g12_9 w M
          refine DG.go (G := fun j => [3, 4, 6, 7].contains j) (i := 9) (f' := 3) (done := [0, 1, 2, 5, 3, 6, 7, 4, 8]) (fun h => by cases h) ?_
          refine DG.step 10 2 rfl (by kernel_rfl) ?_
          refine WL.call Try.call46 rfl (join_ok (xs := [⟨some ⟨g4_3, 0, none⟩, 1, [u8 op]⟩, ⟨some ⟨g5_0, 0, none⟩, 1, [0]⟩, ⟨A12a, c12a', x12a⟩, ⟨A12b, c12b', x12b⟩]) rfl 16 rfl (by decide) (by first | (simp; done) | (simp; omega)) (by simp) (M.rdL (by first | ((repeat (first | with_reducible exact Has.here | with_reducible refine Has.there ?_)); done) | (repeat (first | exact Has.here | refine Has.there ?_)))) (by intro x hx; simp only [List.mem_cons, List.not_mem_nil, or_false] at hx; rcases hx with rfl | rfl | rfl | rfl <;> exact M.rdB (by first | ((repeat (first | with_reducible exact Has.here | with_reducible refine Has.there ?_)); done) | (repeat (first | exact Has.here | refine Has.there ?_))))) rfl ?_
          rintro _ w ⟨⟨Y, cY, y⟩, rfl, hy, m⟩
          replace M := M.call1 m; clear m
          unfold OX.v
          unfold OX.O at M
          dsimp only at hy M ⊢
          refine DG.go (G := fun j => [3, 4, 6, 7].contains j) (i := 10) (f' := 2) (done := [0, 1, 2, 5, 3, 6, 7, 4, 8, 9]) (fun h => by cases h) ?_
          apply DG.pure_ [11, 12] 0 rfl (by kernel_rfl) (by kernel_rfl)
          · intro w
            refine WL.assign rfl rfl ?_
            refine WL.assign rfl rfl ?_
            exact Chain.end_ rfl
          refine DG.end_ (by kernel_rfl) ?_
          refine WX.next ?_
          refine W.sub [(2, _), (3, _)] (.cons rfl (.cons rfl .nil)) ?_
          refine W.ret ?_
          refine WX.blockRet ?_
          refine WX.thenRet ?_
          refine WX.ret2 rfl rfl rfl ?_
          exact ⟨⟨Y, cY, y⟩, rfl, M.sel (by first | ((repeat (first | with_reducible exact Sel.refl | with_reducible exact Sel.nil | with_reducible exact Del.here | with_reducible apply Del.there | with_reducible apply Sel.cons | with_reducible apply Sel.drop)); done) | (repeat (first | exact Sel.refl | exact Sel.nil | exact Del.here | apply Del.there | apply Sel.cons | apply Sel.drop))), by dsimp only; rw [p3 c3, hy, ← h12a, ← h12b]; simp [hl12a, hl12b]⟩
        · refine W.seq ?_
          refine W.region ?_
          refine WL.eqI rfl rfl rfl ?_
          refine WL.assign rfl rfl ?_
          refine WL.nil ?_
          refine WX.next ?_
          refine W.sub [(1, _), (5, _), (57, _)] (.cons rfl (.cons rfl (.cons rfl .nil))) ?_
          refine W.ite rfl (fun c4 => ?_) (fun c4 => ?_)
          · refine W.seq ?_
            refine W.drawM (_) (by kernel_rfl) (fun j => [1, 2].contains j) M Sel.refl ?_
            clear M; intro M
            apply DG.pure_ [0, 3] 9 rfl (by kernel_rfl) (by kernel_rfl)
            · intro w
              refine WL.move rfl rfl ?_
              refine WL.fieldR (off := 3) Try.underlying36 rfl rfl Try.sizeOf3 rfl rfl rfl ?_
              exact Chain.end_ rfl
            apply DG.take [4, 5] 7 rfl (by kernel_rfl) (by kernel_rfl) (M.sel (by first | ((repeat (first | with_reducible exact Sel.refl | with_reducible exact Sel.nil | with_reducible exact Del.here | with_reducible apply Del.there | with_reducible apply Sel.cons | with_reducible apply Sel.drop)); done) | (repeat (first | exact Sel.refl | exact Sel.nil | exact Del.here | apply Del.there | apply Sel.cons | apply Sel.drop))))
            · intro w M
              refine WL.loadR Try.isAgg3 rfl M (by first | ((repeat (first | with_reducible exact Has.here | with_reducible refine Has.there ?_)); done) | (repeat (first | exact Has.here | refine Has.there ?_))) rfl rfl ?_
              refine WL.conv Try.underlying3 Try.underlying22 rfl hru rfl ?_
              exact Chain.end_ rfl
            refine DG.steps [1, 2] 6 rfl (by kernel_rfl) rfl ?_
            intro i hi; simp only [List.mem_cons, List.not_mem_nil, or_false] at hi; rcases hi with rfl | rfl
            · refine WL.buildB (es := [_]) Try.elem5 M rfl rfl (by apply BytesOf.lit (b := 16) (by decide); exact BytesOf.nil) (by rfl) rfl rfl ?_
              intro g14_1 w M
              refine DG.go (G := fun j => [1, 2].contains j) (i := 1) (f' := 6) (done := [0, 3, 4, 5]) (fun _ => M.sel (by first | ((repeat (first | with_reducible exact Sel.refl | with_reducible exact Sel.nil | with_reducible exact Del.here | with_reducible apply Del.there | with_reducible apply Sel.cons | with_reducible apply Sel.drop)); done) | (repeat (first | exact Sel.refl | exact Sel.nil | exact Del.here | apply Del.there | apply Sel.cons | apply Sel.drop)))) ?_
              refine DG.step 2 5 rfl (by kernel_rfl) ?_
              refine WL.call Try.call37 rfl (refPut19_ok 0 8 (z := 8) rfl (by decide) (by decide) _) rfl ?_
              rintro _ w ⟨⟨A14a, c14a', x14a⟩, rfl, h14a, m⟩
              replace M := M.call1 m; clear m
              unfold OX.v
              unfold OX.O at M
              dsimp only at h14a M ⊢
              have hl14a : x14a.length = 8 := by rw [h14a, nb_length]
              refine DG.go (G := fun j => [1, 2].contains j) (i := 2) (f' := 5) (done := [0, 3, 4, 5, 1]) (fun _ => M.sel (by first | ((repeat (first | with_reducible exact Sel.refl | with_reducible exact Sel.nil | with_reducible exact Del.here | with_reducible apply Del.there | with_reducible apply Sel.cons | with_reducible apply Sel.drop)); done) | (repeat (first | exact Sel.refl | exact Sel.nil | exact Del.here | apply Del.there | apply Sel.cons | apply Sel.drop)))) ?_
              refine DG.step 6 4 rfl (by kernel_rfl) ?_
              refine WL.call Try.call37 rfl (refPut19_ok rm.toNat 4 (z := 4) rfl (by omega) (by decide) _) rfl ?_
              rintro _ w ⟨⟨A14b, c14b', x14b⟩, rfl, h14b, m⟩
              replace M := M.call1 m; clear m
              unfold OX.v
              unfold OX.O at M
              dsimp only at h14b M ⊢
              have hl14b : x14b.length = 4 := by rw [h14b, nb_length]
              refine DG.go (G := fun j => [1, 2].contains j) (i := 6) (f' := 4) (done := [0, 3, 4, 5, 1, 2]) (fun h => by cases h) ?_
              refine DG.step 7 3 rfl (by kernel_rfl) ?_
              refine WL.buildL (E := oxE) (l := [⟨some ⟨g4_3, 0, none⟩, 1, [u8 op]⟩, ⟨some ⟨g14_1, 0, none⟩, 1, [16]⟩, ⟨A14a, c14a', x14a⟩, ⟨A14b, c14b', x14b⟩]) Try.elem25 M rfl rfl rfl rfl rfl rfl ?_
              intro g14_7 w M
              refine DG.go (G := fun j => [1, 2].contains j) (i := 7) (f' := 3) (done := [0, 3, 4, 5, 1, 2, 6]) (fun h => by cases h) ?_
              refine DG.step 8 2 rfl (by kernel_rfl) ?_
              refine WL.call Try.call46 rfl (join_ok (xs := [⟨some ⟨g4_3, 0, none⟩, 1, [u8 op]⟩, ⟨some ⟨g14_1, 0, none⟩, 1, [16]⟩, ⟨A14a, c14a', x14a⟩, ⟨A14b, c14b', x14b⟩]) rfl 16 rfl (by decide) (by first | (simp; done) | (simp; omega)) (by simp) (M.rdL (by first | ((repeat (first | with_reducible exact Has.here | with_reducible refine Has.there ?_)); done) | (repeat (first | exact Has.here | refine Has.there ?_)))) (by intro x hx; simp only [List.mem_cons, List.not_mem_nil, or_false] at hx; rcases hx with rfl | rfl | rfl | rfl <;> exact M.rdB (by first | ((repeat (first | with_reducible exact Has.here | with_reducible refine Has.there ?_)); done) | (repeat (first | exact Has.here | refine Has.there ?_))))) rfl ?_
              rintro _ w ⟨⟨Y, cY, y⟩, rfl, hy, m⟩
              replace M := M.call1 m; clear m
              unfold OX.v
              unfold OX.O at M
              dsimp only at hy M ⊢
              refine DG.go (G := fun j => [1, 2].contains j) (i := 8) (f' := 2) (done := [0, 3, 4, 5, 1, 2, 6, 7]) (fun h => by cases h) ?_
              apply DG.pure_ [9, 10] 0 rfl (by kernel_rfl) (by kernel_rfl)
              · intro w
                refine WL.assign rfl rfl ?_
                refine WL.assign rfl rfl ?_
                exact Chain.end_ rfl
              refine DG.end_ (by kernel_rfl) ?_
              refine WX.next ?_
              refine W.sub [(2, _), (3, _)] (.cons rfl (.cons rfl .nil)) ?_
              refine W.ret ?_
              refine WX.blockRet ?_
              refine WX.thenRet ?_
              refine WX.ret2 rfl rfl rfl ?_
              exact ⟨⟨Y, cY, y⟩, rfl, M.sel (by first | ((repeat (first | with_reducible exact Sel.refl | with_reducible exact Sel.nil | with_reducible exact Del.here | with_reducible apply Del.there | with_reducible apply Sel.cons | with_reducible apply Sel.drop)); done) | (repeat (first | exact Sel.refl | exact Sel.nil | exact Del.here | apply Del.there | apply Sel.cons | apply Sel.drop))), by dsimp only; rw [p4 c4, hy, ← h14a, ← h14b]; simp [hl14a, hl14b]⟩
            · refine WL.call Try.call37 rfl (refPut19_ok 0 8 (z := 8) rfl (by decide) (by decide) _) rfl ?_
              rintro _ w ⟨⟨A14a, c14a', x14a⟩, rfl, h14a, m⟩
              replace M := M.call1 m; clear m
              unfold OX.v
              unfold OX.O at M
              dsimp only at h14a M ⊢
              have hl14a : x14a.length = 8 := by rw [h14a, nb_length]
              refine DG.go (G := fun j => [1, 2].contains j) (i := 2) (f' := 6) (done := [0, 3, 4, 5]) (fun _ => M.sel (by first | ((repeat (first | with_reducible exact Sel.refl | with_reducible exact Sel.nil | with_reducible exact Del.here | with_reducible apply Del.there | with_reducible apply Sel.cons | with_reducible apply Sel.drop)); done) | (repeat (first | exact Sel.refl | exact Sel.nil | exact Del.here | apply Del.there | apply Sel.cons | apply Sel.drop)))) ?_
              refine DG.steps [1, 6] 5 rfl (by kernel_rfl) rfl ?_
              intro i hi; simp only [List.mem_cons, List.not_mem_nil, or_false] at hi; rcases hi with rfl | rfl
              · refine WL.buildB (es := [_]) Try.elem5 M rfl rfl (by apply BytesOf.lit (b := 16) (by decide); exact BytesOf.nil) (by rfl) rfl rfl ?_
                intro g14_1 w M
                refine DG.go (G := fun j => [1, 2].contains j) (i := 1) (f' := 5) (done := [0, 3, 4, 5, 2]) (fun _ => M.sel (by first | ((repeat (first | with_reducible exact Sel.refl | with_reducible exact Sel.nil | with_reducible exact Del.here | with_reducible apply Del.there | with_reducible apply Sel.cons | with_reducible apply Sel.drop)); done) | (repeat (first | exact Sel.refl | exact Sel.nil | exact Del.here | apply Del.there | apply Sel.cons | apply Sel.drop)))) ?_
                refine DG.step 6 4 rfl (by kernel_rfl) ?_
                refine WL.call Try.call37 rfl (refPut19_ok rm.toNat 4 (z := 4) rfl (by omega) (by decide) _) rfl ?_
                rintro _ w ⟨⟨A14b, c14b', x14b⟩, rfl, h14b, m⟩
                replace M := M.call1 m; clear m
                unfold OX.v
                unfold OX.O at M
                dsimp only at h14b M ⊢
                have hl14b : x14b.length = 4 := by rw [h14b, nb_length]
                refine DG.go (G := fun j => [1, 2].contains j) (i := 6) (f' := 4) (done := [0, 3, 4, 5, 2, 1]) (fun h => by cases h) ?_
                refine DG.step 7 3 rfl (by kernel_rfl) ?_
                refine WL.buildL (E := oxE) (l := [⟨some ⟨g4_3, 0, none⟩, 1, [u8 op]⟩, ⟨some ⟨g14_1, 0, none⟩, 1, [16]⟩, ⟨A14a, c14a', x14a⟩, ⟨A14b, c14b', x14b⟩]) Try.elem25 M rfl rfl rfl rfl rfl rfl ?_
                intro g14_7 w M
                refine DG.go (G := fun j => [1, 2].contains j) (i := 7) (f' := 3) (done := [0, 3, 4, 5, 2, 1, 6]) (fun h => by cases h) ?_
                refine DG.step 8 2 rfl (by kernel_rfl) ?_
                refine WL.call Try.call46 rfl (join_ok (xs := [⟨some ⟨g4_3, 0, none⟩, 1, [u8 op]⟩, ⟨some ⟨g14_1, 0, none⟩, 1, [16]⟩, ⟨A14a, c14a', x14a⟩, ⟨A14b, c14b', x14b⟩]) rfl 16 rfl (by decide) (by first | (simp; done) | (simp; omega)) (by simp) (M.rdL (by first | ((repeat (first | with_reducible exact Has.here | with_reducible refine Has.there ?_)); done) | (repeat (first | exact Has.here | refine Has.there ?_)))) (by intro x hx; simp only [List.mem_cons, List.not_mem_nil, or_false] at hx; rcases hx with rfl | rfl | rfl | rfl <;> exact M.rdB (by first | ((repeat (first | with_reducible exact Has.here | with_reducible refine Has.there ?_)); done) | (repeat (first | exact Has.here | refine Has.there ?_))))) rfl ?_
                rintro _ w ⟨⟨Y, cY, y⟩, rfl, hy, m⟩
                replace M := M.call1 m; clear m
                unfold OX.v
                unfold OX.O at M
                dsimp only at hy M ⊢
                refine DG.go (G := fun j => [1, 2].contains j) (i := 8) (f' := 2) (done := [0, 3, 4, 5, 2, 1, 6, 7]) (fun h => by cases h) ?_
                apply DG.pure_ [9, 10] 0 rfl (by kernel_rfl) (by kernel_rfl)
                · intro w
                  refine WL.assign rfl rfl ?_
                  refine WL.assign rfl rfl ?_
                  exact Chain.end_ rfl
                refine DG.end_ (by kernel_rfl) ?_
                refine WX.next ?_
                refine W.sub [(2, _), (3, _)] (.cons rfl (.cons rfl .nil)) ?_
                refine W.ret ?_
                refine WX.blockRet ?_
                refine WX.thenRet ?_
                refine WX.ret2 rfl rfl rfl ?_
                exact ⟨⟨Y, cY, y⟩, rfl, M.sel (by first | ((repeat (first | with_reducible exact Sel.refl | with_reducible exact Sel.nil | with_reducible exact Del.here | with_reducible apply Del.there | with_reducible apply Sel.cons | with_reducible apply Sel.drop)); done) | (repeat (first | exact Sel.refl | exact Sel.nil | exact Del.here | apply Del.there | apply Sel.cons | apply Sel.drop))), by dsimp only; rw [p4 c4, hy, ← h14a, ← h14b]; simp [hl14a, hl14b]⟩
              · refine WL.call Try.call37 rfl (refPut19_ok rm.toNat 4 (z := 4) rfl (by omega) (by decide) _) rfl ?_
                rintro _ w ⟨⟨A14b, c14b', x14b⟩, rfl, h14b, m⟩
                replace M := M.call1 m; clear m
                unfold OX.v
                unfold OX.O at M
                dsimp only at h14b M ⊢
                have hl14b : x14b.length = 4 := by rw [h14b, nb_length]
                refine DG.go (G := fun j => [1, 2].contains j) (i := 6) (f' := 5) (done := [0, 3, 4, 5, 2]) (fun h => by cases h) ?_
                refine DG.step 1 4 rfl (by kernel_rfl) ?_
                refine WL.buildB (es := [_]) Try.elem5 M rfl rfl (by apply BytesOf.lit (b := 16) (by decide); exact BytesOf.nil) (by rfl) rfl rfl ?_
                intro g14_1 w M
                refine DG.go (G := fun j => [1, 2].contains j) (i := 1) (f' := 4) (done := [0, 3, 4, 5, 2, 6]) (fun _ => M.sel (by first | ((repeat (first | with_reducible exact Sel.refl | with_reducible exact Sel.nil | with_reducible exact Del.here | with_reducible apply Del.there | with_reducible apply Sel.cons | with_reducible apply Sel.drop)); done) | (repeat (first | exact Sel.refl | exact Sel.nil | exact Del.here | apply Del.there | apply Sel.cons | apply Sel.drop)))) ?_
                refine DG.step 7 3 rfl (by kernel_rfl) ?_
                refine WL.buildL (E := oxE) (l := [⟨some ⟨g4_3, 0, none⟩, 1, [u8 op]⟩, ⟨some ⟨g14_1, 0, none⟩, 1, [16]⟩, ⟨A14a, c14a', x14a⟩, ⟨A14b, c14b', x14b⟩]) Try.elem25 M rfl rfl rfl rfl rfl rfl ?_
                intro g14_7 w M
                refine DG.go (G := fun j => [1, 2].contains j) (i := 7) (f' := 3) (done := [0, 3, 4, 5, 2, 6, 1]) (fun h => by cases h) ?_
                refine DG.step 8 2 rfl (by kernel_rfl) ?_
                refine WL.call Try.call46 rfl (join_ok (xs := [⟨some ⟨g4_3, 0, none⟩, 1, [u8 op]⟩, ⟨some ⟨g14_1, 0, none⟩, 1, [16]⟩, ⟨A14a, c14a', x14a⟩, ⟨A14b, c14b', x14b⟩]) rfl 16 rfl (by decide) (by first | (simp; done) | (simp; omega)) (by simp) (M.rdL (by first | ((repeat (first | with_reducible exact Has.here | with_reducible refine Has.there ?_)); done) | (repeat (first | exact Has.here | refine Has.there ?_)))) (by intro x hx; simp only [List.mem_cons, List.not_mem_nil, or_false] at hx; rcases hx with rfl | rfl | rfl | rfl <;> exact M.rdB (by first | ((repeat (first | with_reducible exact Has.here | with_reducible refine Has.there ?_)); done) | (repeat (first | exact Has.here | refine Has.there ?_))))) rfl ?_
                rintro _ w ⟨⟨Y, cY, y⟩, rfl, hy, m⟩
                replace M := M.call1 m; clear m
                unfold OX.v
                unfold OX.O at M
                dsimp only at hy M ⊢
                refine DG.go (G := fun j => [1, 2].contains j) (i := 8) (f' := 2) (done := [0, 3, 4, 5, 2, 6, 1, 7]) (fun h => by cases h) ?_
                apply DG.pure_ [9, 10] 0 rfl (by kernel_rfl) (by kernel_rfl)
                · intro w
                  refine WL.assign rfl rfl ?_
                  refine WL.assign rfl rfl ?_
                  exact Chain.end_ rfl
                refine DG.end_ (by kernel_rfl) ?_
                refine WX.next ?_
                refine W.sub [(2, _), (3, _)] (.cons rfl (.cons rfl .nil)) ?_
                refine W.ret ?_
                refine WX.blockRet ?_
                refine WX.thenRet ?_
                refine WX.ret2 rfl rfl rfl ?_
                exact ⟨⟨Y, cY, y⟩, rfl, M.sel (by first | ((repeat (first | with_reducible exact Sel.refl | with_reducible exact Sel.nil | with_reducible exact Del.here | with_reducible apply Del.there | with_reducible apply Sel.cons | with_reducible apply Sel.drop)); done) | (repeat (first | exact Sel.refl | exact Sel.nil | exact Del.here | apply Del.there | apply Sel.cons | apply Sel.drop))), by dsimp only; rw [p4 c4, hy, ← h14a, ← h14b]; simp [hl14a, hl14b]⟩
          · refine W.skip ?_
            refine WX.blockNormal ?_
            refine WX.next ?_
            refine W.seq ?_
            refine W.region ?_
            refine WL.move rfl rfl ?_
            refine WL.buildL (E := oxE) (l := [⟨some ⟨g4_3, 0, none⟩, 1, [u8 op]⟩]) Try.elem25 M rfl rfl rfl rfl rfl rfl ?_
            intro g15_1 w M
            refine WL.call Try.call46 rfl (join_ok (xs := [⟨some ⟨g4_3, 0, none⟩, 1, [u8 op]⟩]) rfl 16 rfl (by decide) (by first | (simp; done) | (simp; omega)) (by simp) (M.rdL (by first | ((repeat (first | with_reducible exact Has.here | with_reducible refine Has.there ?_)); done) | (repeat (first | exact Has.here | refine Has.there ?_)))) (by intro x hx; simp only [List.mem_cons, List.not_mem_nil, or_false] at hx; subst hx; exact M.rdB (by first | ((repeat (first | with_reducible exact Has.here | with_reducible refine Has.there ?_)); done) | (repeat (first | exact Has.here | refine Has.there ?_))))) rfl ?_
            rintro _ w ⟨⟨Y, cY, y⟩, rfl, hy, m⟩
            replace M := M.call1 m; clear m
            unfold OX.v
            unfold OX.O at M
            dsimp only at hy M ⊢
            refine WL.assign rfl rfl ?_
            refine WL.assign rfl rfl ?_
            refine WL.nil ?_
            refine WX.next ?_
            refine W.sub [(2, _), (3, _)] (.cons rfl (.cons rfl .nil)) ?_
            refine W.ret ?_
            refine WX.ret2 rfl rfl rfl ?_
            exact ⟨⟨Y, cY, y⟩, rfl, M.sel (by first | ((repeat (first | with_reducible exact Sel.refl | with_reducible exact Sel.nil | with_reducible exact Del.here | with_reducible apply Del.there | with_reducible apply Sel.cons | with_reducible apply Sel.drop)); done) | (repeat (first | exact Sel.refl | exact Sel.nil | exact Del.here | apply Del.there | apply Sel.cons | apply Sel.drop))), by dsimp only; rw [p0 (by omega), hy]; simp⟩
theorem cmdOf_kind (B : List UInt8) : (kindC ((el B 0).toNat : Int) = 0 → cmdOf B = ⟨((el B 0).toNat : Int), 0, 0, 0⟩) ∧ (kindC ((el B 0).toNat : Int) = 1 → cmdOf B = ⟨((el B 0).toNat : Int), 0, 0, (num (sub B 3 (3 + 2)) : Int)⟩) ∧ (kindC ((el B 0).toNat : Int) = 2 → cmdOf B = ⟨((el B 0).toNat : Int), num (sub B 2 (2 + 4)), (num (sub B 7 (7 + 2)) : Int), 0⟩) ∧
    (kindC ((el B 0).toNat : Int) = 3 → cmdOf B = ⟨((el B 0).toNat : Int), num (sub B 2 (2 + 8)), (num (sub B 10 (10 + 4)) : Int), 0⟩) ∧ (kindC ((el B 0).toNat : Int) = 4 → cmdOf B = ⟨((el B 0).toNat : Int), 0, 0, (num (sub B 10 (10 + 4)) : Int)⟩) := by
  obtain ⟨f0, f1, f2, f3, f4⟩ := fm_of_kind ((el B 0).toNat : Int)
  have hz : sub B 0 (0 + 0) = [] := by simp [sub]
  have hz2 : (num [] : Nat) = 0 := rfl
  unfold cmdOf
  refine ⟨fun h => ?_, fun h => ?_, fun h => ?_, fun h => ?_, fun h => ?_⟩
  · rw [f0 h]
    dsimp only
    rw [hz]
    rfl
  · rw [f1 h]
    dsimp only
    rw [hz]
    rfl
  · rw [f2 h]
    dsimp only
    rw [hz]
    rfl
  · rw [f3 h]
    dsimp only
    rw [hz]
    rfl
  · rw [f4 h]
    dsimp only
    rw [hz]
    rfl
theorem cmdOf_inn {B : List UInt8} (h : B.length = 16) : (cmdOf B).inn := by
  obtain ⟨g1, g2, g3, g4, g5, g6⟩ := fm_fits ((el B 0).toNat : Int)
  have hr : ∀ n, n ≤ 4 → 256 ^ n ≤ 4294967296 := by
    intro n hn
    match n, hn with
    | 0, _ => decide
    | 1, _ => decide
    | 2, _ => decide
    | 3, _ => decide
    | 4, _ => decide
  have h4 : ∀ a n, a + n ≤ 16 → n ≤ 4 → num (sub B a (a + n)) < 4294967296 := by
    intro a n ha hn
    have h1 := num_lt (sub B a (a + n))
    rw [sub_length (by omega) (by omega), show a + n - a = n by omega] at h1
    have := hr n hn
    omega
  have hcr : (fmOf ((el B 0).toNat : Int)).cn ≤ 4 ∧ (fmOf ((el B 0).toNat : Int)).rn ≤ 4 := by
    unfold fmOf
    split
    · first | decide | (dsimp only; omega)
    · split
      · first | decide | (dsimp only; omega)
      · split
        · first | decide | (dsimp only; omega)
        · split
          · first | decide | (dsimp only; omega)
          · split
            · first | decide | (dsimp only; omega)
            · decide
  have q1 := num_sub_lt (B := B) (a := (fmOf ((el B 0).toNat : Int)).la) (n := (fmOf ((el B 0).toNat : Int)).ln) (by omega) g2
  have q2 := h4 _ _ g3 hcr.1
  have q3 := h4 _ _ g5 hcr.2
  exact ⟨q1, ⟨by show _ ≤ ((_ : Nat) : Int); omega, by show ((_ : Nat) : Int) ≤ _; omega⟩, ⟨by show _ ≤ ((_ : Nat) : Int); omega, by show ((_ : Nat) : Int) ≤ _; omega⟩⟩
end Go.Proofs.Ytinbcidgdbmcjaa
