/-
  Rules, laws and walks, part 7 of 11.
-/
import Derived.Test.YtlminileigfkcaaGreatFarF
namespace Go.Proofs.YtlminileigfkcaaGreat
open Go Go.RowKit Crc Bin
theorem headD_some {d : Dk} {a : Nat} {kd : UInt8} {b : List UInt8} {to e : Int} (hg : getG (el d.now a).l 0 = (kd, b, to, e)) (he : e = 0) (hk : kd = 1) :
 (headD d a).isSome = decide ((rdU b 0).2.2 = 0 ∧ (rdU b 0).2.1 = (b.length : Int) ∧ (rdU b 0).1 < 4611686018427387904 ∧ (rdU b 0).1 % 2 = a) ∧ ∀ n, headD d a = some n → (rdU b 0).1 = n := by
 unfold headD
 rw [hg]
 dsimp only
 rw [if_neg (by rintro (h | h); exact h he; exact h hk)]
 by_cases hc : (rdU b 0).2.2 = 0 ∧ (rdU b 0).2.1 = (b.length : Int) ∧ (rdU b 0).1 < 4611686018427387904 ∧ (rdU b 0).1 % 2 = a
 ·rw [if_pos hc, decide_eq_true hc]
  exact ⟨rfl, fun n h => by cases h; rfl⟩
 ·rw [if_neg hc, decide_eq_false hc]
  exact ⟨rfl, fun n h => by cases h⟩
theorem headD_none {d : Dk} {a : Nat} {kd : UInt8} {b : List UInt8} {to e : Int} (hg : getG (el d.now a).l 0 = (kd, b, to, e)) (h : e ≠ 0 ∨ kd ≠ 1) : headD d a = none := by
 unfold headD
 rw [hg]
 dsimp only
 rw [if_pos h]
theorem getG_len (l : List UInt8) (a : Int) : (getG l a).2.1.length ≤ l.length := by
 by_cases h : a < 0 ∨ (l.length : Int) < a
 ·rw [getG_out h]; simp
 ·obtain ⟨k, b, n, e, hr⟩ : ∃ k b n e, getR (l.drop a.toNat) = (k, b, n, e) := ⟨_, _, _, _, rfl⟩
  unfold getG
  rw [if_neg h, hr]
  dsimp only
  split
  ·simp
  ·rename_i he
   have he0 : e = 0 := by simpa using he
   subst he0
   obtain ⟨_, h2, h3, _⟩ := getR_one hr
   rw [List.length_drop] at h3
   dsimp only
   omega
section
variable (k : DkX) (w0 w : World) (L L' : List Asr)
set_option maxRecDepth 10000 in
theorem walHead_ok (hk : k.d.ok) (hdn : k.d.down = false) (a : Nat) (ha : a < k.d.safe.length) (M : Mem w0 w L) (hd : Del k.O L L') : Fn Tryz.prog 48 [.pointer (some ⟨k.g, 0, none⟩), .int .i64 (a : Int)] w fun v w' => ∃ m : Nat, v = .tuple #[.int .u64 (m : Int), .bool (headD k.d a).isSome] ∧ (∀ n, headD k.d a = some n → m = n) ∧ Mem w0 w' (k.O :: L') := by
 have hln := hk.len
 have hrd : k.d.read a = ((el k.d.now a).l, 0) := by unfold Dk.read; rw [if_neg (by rw [hdn]; simp)]
 have hl32 := (el k.d.now a).h
 obtain ⟨kd, b, to, e, hg⟩ : ∃ kd b to e, getG (el k.d.now a).l 0 = (kd, b, to, e) := ⟨_, _, _, _, rfl⟩
 have hbl := getG_len (el k.d.now a).l 0
 rw [hg] at hbl
 dsimp only at hbl
 refine Fn.enter Tryz.func48 rfl Tryz.ntmps48 rfl (W.sub [(0, _), (1, _)] (.cons rfl (.cons rfl .nil)) (W.seq (W.region (WL.assign rfl rfl (WL.assign rfl rfl (WL.nil (WX.next (W.sub [(0, _), (1, _)] (.cons rfl (.cons rfl .nil)) (W.seq (W.region (WL.move rfl rfl (WL.move rfl rfl (WL.call Tryz.call49 rfl (diskRead_ok k w0 w _ _ hk a ha M hd) rfl ?_)))))))))))))
 rintro _ w ⟨A1, q1, rfl, M⟩
 rw [hrd] at M ⊢
 refine WL.move rfl rfl (WL.extractL rfl rfl rfl (WL.extractL rfl rfl rfl (WL.assign rfl rfl (WL.assign rfl rfl (WL.nil (WX.next (W.sub [(1, _), (6, _), (7, _)] (.cons rfl (.cons rfl (.cons rfl .nil))) (W.seq (W.seq (W.region (WL.move rfl rfl (WL.neI rfl rfl rfl (WL.nil (WX.next (W.sub [(1, _), (6, _), (19, _)] (.cons rfl (.cons rfl (.cons rfl .nil))) (W.ite rfl (fun c0 => ?_) (fun c0 => ?_)))))))))))))))))
 ·exact absurd rfl c0
 ·refine W.skip (WX.next (W.seq (W.region (WL.move rfl rfl (WL.call Tryz.call85 rfl (Get_ok (el k.d.now a).l A1 q1 0 _ (M.rdB Has.a) (by omega) (by omega)) rfl ?_)))))
  rintro _ w hgot
  rw [hg] at hgot
  obtain ⟨A2, q2, rfl, m⟩ := hgot
  replace M := M.call1 m; clear m
  refine WL.move rfl rfl (WL.extractL rfl rfl rfl (WL.extractL rfl rfl rfl (WL.extractL rfl rfl rfl (WL.alloc Tryz.zeroValue144 M rfl ?_))))
  intro g4_6 w M
  try simp only [Value.cells] at M
  try simp only [List.toList_toArray] at M
  refine WL.storeWA Tryz.sizeOf144 rfl rfl (by repeat (first | exact oneNil | refine oneCons rfl ?_)) rfl rfl M Upd.a ?_
  intro w M
  refine WL.assign rfl rfl (WL.assign rfl rfl (WL.nil (WX.next (W.sub [(1, _), (7, _), (8, _)] (.cons rfl (.cons rfl (.cons rfl .nil))) (W.seq (W.seq (W.region (WL.move rfl rfl (WL.neI rfl rfl rfl (WL.moveIf rfl rfl (fun c1 => ?_) (fun c1 => ?_)))))))))))
  ·refine WL.off rfl rfl rfl rfl (WL.off rfl rfl rfl rfl (WL.off rfl rfl rfl rfl (WL.pickT rfl rfl rfl (WL.nil (WX.next (W.sub [(1, _), (8, _), (32, _)] (.cons rfl (.cons rfl (.cons rfl .nil))) (W.condT rfl (W.seq (W.region (WL.assign rfl rfl (WL.assign rfl rfl (WL.nil (WX.next (W.sub [(4, _), (5, _)] (.cons rfl (.cons rfl .nil)) (W.ret (WX.thenRet (WX.ret2 rfl rfl rfl ?_)))))))))))))))))
   rw [headD_none hg (.inl (by simpa using c1))]
   exact ⟨0, rfl, fun n h => (by cases h), M.sel Sel.a⟩
  ·refine WL.on rfl rfl (WL.fieldR (off := 0) Tryz.underlying144 rfl rfl Tryz.sizeOf5 rfl rfl rfl ?_)
   refine WL.on rfl rfl (WL.loadR Tryz.isAgg5 rfl M Has.a rfl rfl (WL.on rfl rfl (WL.neI rfl rfl rfl (WL.pickF rfl rfl rfl (WL.nil (WX.next (W.sub [(1, _), (8, _), (32, _)] (.cons rfl (.cons rfl (.cons rfl .nil))) (W.ite rfl (fun c2 => ?_) (fun c2 => ?_)))))))))
   ·refine W.seq (W.region (WL.assign rfl rfl (WL.assign rfl rfl (WL.nil (WX.next (W.sub [(4, _), (5, _)] (.cons rfl (.cons rfl .nil)) (W.ret (WX.thenRet (WX.ret2 rfl rfl rfl ?_)))))))))
    rw [headD_none hg (.inr (fun h => c2 (by rw [h]; rfl)))]
    exact ⟨0, rfl, fun n h => (by cases h), M.sel Sel.a⟩
   ·have he : e = 0 := by simpa using c1
    have hkd : kd = 1 := by
     have h1 : kd.toNat = 1 := by
      have : (kd.toNat : Int) = 1 := by simpa using c2
      omega
     exact UInt8.toNat_inj.1 h1
    obtain ⟨hs1, hs2⟩ := headD_some hg he hkd
    refine W.skip (WX.next (W.seq (W.region (WL.fieldR (off := 1) Tryz.underlying144 rfl rfl Tryz.sizeOf84 rfl rfl rfl ?_))))
    refine WL.loadR Tryz.isAgg84 rfl M Has.a rfl rfl (WL.call Tryz.call86 rfl (Uint_ok b A2 q2 0 _ (M.rdB Has.a) (by omega) (by omega)) rfl ?_)
    rintro _ _ ⟨rfl, rfl⟩
    refine WL.move rfl rfl (WL.extractL rfl rfl rfl (WL.extractL rfl rfl rfl (WL.extractL rfl rfl rfl (WL.assign rfl rfl (WL.assign rfl rfl (WL.assign rfl rfl (WL.nil (WX.next (W.sub [(1, _), (7, _), (8, _), (10, _), (11, _)] (.cons rfl (.cons rfl (.cons rfl (.cons rfl (.cons rfl .nil))))) (W.seq (W.region (WL.move rfl rfl (WL.move rfl rfl (WL.eqI rfl rfl rfl (WL.moveIf rfl rfl (fun c3 => ?_) (fun c3 => ?_))))))))))))))))
    ·refine WL.on rfl rfl (WL.move rfl rfl (WL.on rfl rfl (WL.fieldR (off := 1) Tryz.underlying144 rfl rfl Tryz.sizeOf84 rfl rfl rfl ?_)))
     refine WL.on rfl rfl (WL.loadR Tryz.isAgg84 rfl M Has.a rfl rfl (WL.on rfl rfl (WL.len Tryz.underlying84 rfl rfl (WL.on rfl rfl (WL.eqI rfl rfl rfl (WL.pickT rfl rfl rfl (WL.moveIf rfl rfl (fun c4 => ?_) (fun c4 => ?_))))))))
     ·refine WL.on rfl rfl (WL.move rfl rfl (WL.on rfl rfl (WL.lss rfl rfl rfl (WL.pickT rfl rfl rfl (WL.moveIf rfl rfl (fun c5 => ?_) (fun c5 => ?_))))))
      ·refine WL.on rfl rfl (WL.move rfl rfl (WL.on rfl rfl (WL.rem rfl rfl (by omega) (remN (by omega)) rfl ?_)))
       refine WL.on rfl rfl (WL.conv Tryz.underlying47 Tryz.underlying3 rfl (by first | exact wI64 (by omega) | rfl) rfl ?_)
       refine WL.on rfl rfl (WL.move rfl rfl (WL.on rfl rfl (WL.eqI rfl rfl rfl (WL.pickT rfl rfl rfl (WL.assign rfl rfl (WL.assign rfl rfl (WL.nil (WX.next (W.sub [(4, _), (5, _)] (.cons rfl (.cons rfl .nil)) (W.ret (WX.ret2 rfl rfl rfl ?_)))))))))))
       exact ⟨(rdU b 0).1, by
        have e1 : decide (((rdU b 0).1 : Int) % 2 = (a : Int)) = decide ((rdU b 0).2.2 = 0 ∧ (rdU b 0).2.1 = (b.length : Int) ∧ (rdU b 0).1 < 4611686018427387904 ∧ (rdU b 0).1 % 2 = a) := by rw [decide_eq_decide]; exact ⟨fun h => ⟨c3, c4, by omega, by omega⟩, fun h => by omega⟩
        rw [hs1, ← e1], hs2, M.sel Sel.a⟩
      ·refine WL.off rfl rfl rfl rfl (WL.off rfl rfl rfl rfl (WL.off rfl rfl rfl rfl (WL.off rfl rfl rfl rfl (WL.off rfl rfl rfl rfl (WL.pickF rfl rfl rfl (WL.assign rfl rfl (WL.assign rfl rfl (WL.nil (WX.next (W.sub [(4, _), (5, _)] (.cons rfl (.cons rfl .nil)) (W.ret (WX.ret2 rfl rfl rfl ?_))))))))))))
       exact ⟨(rdU b 0).1, by rw [hs1, decide_eq_false (fun h => c5 (by have := h.2.2.1; omega))], hs2, M.sel Sel.a⟩
     ·refine WL.off rfl rfl rfl rfl (WL.off rfl rfl rfl rfl (WL.pickF rfl rfl rfl (WL.move rfl rfl (WL.off rfl rfl rfl rfl (WL.off rfl rfl rfl rfl (WL.off rfl rfl rfl rfl (WL.off rfl rfl rfl rfl (WL.off rfl rfl rfl rfl (WL.pickF rfl rfl rfl (WL.assign rfl rfl (WL.assign rfl rfl (WL.nil (WX.next (W.sub [(4, _), (5, _)] (.cons rfl (.cons rfl .nil)) (W.ret (WX.ret2 rfl rfl rfl ?_))))))))))))))))
      exact ⟨(rdU b 0).1, by rw [hs1, decide_eq_false (fun h => c4 h.2.1)], hs2, M.sel Sel.a⟩
    ·refine WL.off rfl rfl rfl rfl (WL.off rfl rfl rfl rfl (WL.off rfl rfl rfl rfl (WL.off rfl rfl rfl rfl (WL.off rfl rfl rfl rfl (WL.pickF rfl rfl rfl (WL.move rfl rfl (WL.off rfl rfl rfl rfl (WL.off rfl rfl rfl rfl (WL.pickF rfl rfl rfl (WL.move rfl rfl (WL.off rfl rfl rfl rfl (WL.off rfl rfl rfl rfl (WL.off rfl rfl rfl rfl (WL.off rfl rfl rfl rfl (WL.off rfl rfl rfl rfl (WL.pickF rfl rfl rfl (WL.assign rfl rfl (WL.assign rfl rfl (WL.nil (WX.next (W.sub [(4, _), (5, _)] (.cons rfl (.cons rfl .nil)) (W.ret (WX.ret2 rfl rfl rfl ?_)))))))))))))))))))))))
     exact ⟨(rdU b 0).1, by rw [hs1, decide_eq_false (fun h => c3 h.1)], hs2, M.sel Sel.a⟩
set_option maxHeartbeats 1000000 in
set_option maxRecDepth 10000 in
theorem walScan_ok {g gd e h ga ca : Nat} (b : List UInt8) (hb : b.length = 32 * h) (hh : h ≤ 1023) (M : Mem w0 w L) (hd : Del (waRow g gd e h ga ca none 0 0 0 0 false) L L') (har : RdH w0 L' (some ⟨ga, 0, none⟩) ca b) :
 Fn Tryz.prog 51 [.pointer (some ⟨g, 0, none⟩)] w fun _ w' => ∃ Al cl xs, List.map OX.l xs = (scanB b (b.length + 1) 0).1 ∧ Mem w0 w' (waRow g gd e h ga ca Al xs.length cl xs.length (scanB b (b.length + 1) 0).2 false :: Asr.lst oxE Al cl xs :: Asr.star (xs.map OX.O) :: L') := by
 have M1 := M.del hd
 clear M
 have M := M1
 obtain ⟨T, hT⟩ : ∃ T, T = scanB b (b.length + 1) 0 := ⟨_, rfl⟩
 rw [← hT]
 refine Fn.enter Tryz.func51 rfl Tryz.ntmps51 rfl (W.sub [(0, _)] (.cons rfl .nil) (W.joint (fun (z : Option Addr × Nat × List OX) => [(0, .pointer (some ⟨g, 0, none⟩))]) (fun zj w => Mem w0 w ((fun z => waRow g gd e h ga ca z.1 z.2.2.length z.2.1 0 T.2 false :: Asr.lst oxE z.1 z.2.1 z.2.2 :: Asr.star (z.2.2.map OX.O) :: L') zj) ∧ (fun z => z.2.2.map OX.l = T.1) zj) ?_ ?_))
 ·refine W.block ?_
  refine W.loop (ι := Nat × Nat × (Option Addr × Nat × List OX)) (fun z => [(0, .pointer (some ⟨g, 0, none⟩))]) (fun zz w => Mem w0 w ((fun z => waRow g gd e h ga ca z.2.2.1 z.2.2.2.2.length z.2.2.2.1 0 z.2.1 false :: Asr.lst oxE z.2.2.1 z.2.2.2.1 z.2.2.2.2 :: Asr.star (z.2.2.2.2.map OX.O) :: L') zz) ∧ (fun z => b.length < z.2.1 + z.1 ∧ z.2.1 ≤ b.length ∧ z.2.2.2.2.map OX.l ++ (scanB b z.1 z.2.1).1 = T.1 ∧ (scanB b z.1 z.2.1).2 = T.2 ∧ z.2.2.2.2.length * 10 ≤ z.2.1) zz) (fun z => b.length - z.2.1) ((b.length + 1, 0, none, 0, [])) envSub.sf ⟨((Mem.nilOwn (Mem.starNil M) 84 1).sel Sel.a), ⟨by dsimp only; omega, Nat.zero_le _, by rw [hT]; rfl, by rw [hT], by simp⟩⟩ ?_
  clear M; rintro (⟨f, a, Al, cl, xs⟩) w ⟨M, ⟨hf, ha, hx, ht, hx10⟩⟩; dsimp only at M hf ha hx ht hx10 ⊢
  refine W.sub [(0, _)] (.cons rfl .nil) (W.block (W.seq ?_))
  obtain ⟨f', rfl⟩ : ∃ f', f = f' + 1 := ⟨f - 1, by omega⟩
  obtain ⟨kd, bd, to, er, hg⟩ : ∃ kd bd to er, getG b (a : Int) = (kd, bd, to, er) := ⟨_, _, _, _, rfl⟩
  rw [scanB, hg] at hx ht
  dsimp only at hx ht
  refine W.drawM ([waRow g gd e h ga ca Al xs.length cl 0 a false]) (by kernel_rfl) (fun j => [3, 7, 13].contains j) M Sel.a ?_
  clear M; intro M
  apply DG.pure_ [0, 1, 2, 4, 5, 6] 11 rfl (by kernel_rfl) (by kernel_rfl)
  ·intro w
   refine WL.move rfl rfl (WL.nilCheck rfl rfl (WL.fieldR (off := 3) Tryz.underlying131 rfl rfl Tryz.sizeOf84 rfl rfl rfl ?_))
   refine WL.move rfl rfl (WL.nilCheck rfl rfl (WL.fieldR (off := 6) Tryz.underlying131 rfl rfl Tryz.sizeOf3 rfl rfl rfl ?_))
   exact Chain.end_ rfl
  apply DG.take [3, 7] 9 rfl (by kernel_rfl) (by kernel_rfl) (M.sel Sel.a)
  ·intro w M
   refine WL.loadR Tryz.isAgg84 rfl M Has.a rfl rfl (WL.loadR Tryz.isAgg3 rfl M Has.a rfl rfl ?_)
   exact Chain.end_ rfl
  refine DG.steps [8, 13] 8 rfl (by kernel_rfl) rfl ?_
  intro i hi; simp only [List.mem_cons, List.not_mem_nil, or_false] at hi; rcases hi with rfl | rfl
  ·rw [← hb]
   refine WL.call Tryz.call85 rfl (Get_ok b (some ⟨ga, 0, none⟩) ca (a : Int) _ (har.at (M.sel Sel.a)) (by omega) (by omega)) rfl ?_
   rintro _ w hgot
   rw [hg] at hgot
   obtain ⟨A2, q2, rfl, m⟩ := hgot
   replace M := M.call1 m; clear m
   refine DG.go (G := fun j => [3, 7, 13].contains j) (i := 8) (f' := 8) (done := [0, 1, 2, 4, 5, 6, 3, 7]) (fun h => by cases h) ?_
   apply DG.pure_ [9, 10, 11, 12] 4 rfl (by kernel_rfl) (by kernel_rfl)
   ·intro w
    refine WL.move rfl rfl (WL.extractL rfl rfl rfl (WL.extractL rfl rfl rfl (WL.extractL rfl rfl rfl ?_)))
    exact Chain.end_ rfl
   refine DG.step 13 3 rfl (by kernel_rfl) ?_
   refine WL.alloc Tryz.zeroValue144 M rfl ?_
   intro g0_13 w M
   try simp only [Value.cells] at M
   try simp only [List.toList_toArray] at M
   refine DG.go (G := fun j => [3, 7, 13].contains j) (i := 13) (f' := 3) (done := [0, 1, 2, 4, 5, 6, 3, 7, 8, 9, 10, 11, 12]) (fun _ => M.sel Sel.a) ?_
   refine DG.step 14 2 rfl (by kernel_rfl) ?_
   refine WL.storeWA Tryz.sizeOf144 rfl rfl (by repeat (first | exact oneNil | refine oneCons rfl ?_)) rfl rfl M Upd.a ?_
   intro w M
   refine DG.go (G := fun j => [3, 7, 13].contains j) (i := 14) (f' := 2) (done := [0, 1, 2, 4, 5, 6, 3, 7, 8, 9, 10, 11, 12, 13]) (fun h => by cases h) ?_
   apply DG.pure_ [15, 16] 0 rfl (by kernel_rfl) (by kernel_rfl)
   ·intro w
    refine WL.assign rfl rfl (WL.assign rfl rfl ?_)
    exact Chain.end_ rfl
   refine DG.end_ (by kernel_rfl) ?_
   refine WX.next (W.sub [(0, _), (2, _), (3, _), (4, _)] (.cons rfl (.cons rfl (.cons rfl (.cons rfl .nil)))) (W.seq (W.seq (W.region (WL.move rfl rfl (WL.neI rfl rfl rfl (WL.moveIf rfl rfl (fun c0 => ?_) (fun c0 => ?_))))))))
   ·refine WL.off rfl rfl rfl rfl (WL.off rfl rfl rfl rfl (WL.off rfl rfl rfl rfl (WL.pickT rfl rfl rfl (WL.nil (WX.next (W.sub [(0, _), (2, _), (3, _), (24, _)] (.cons rfl (.cons rfl (.cons rfl (.cons rfl .nil)))) (W.condT rfl (W.exit (WX.thenExit (WX.blockPast rfl (WX.thenExit (WX.blockHere ?_))))))))))))
    have hbad : er ≠ 0 ∨ kd ≠ 2 := by first | (exact .inl (by simpa using c0)) | (exact .inr (fun h => c1 (by rw [h]; rfl)))
    rw [if_pos hbad] at hx ht
    dsimp only at hx ht
    rw [List.append_nil] at hx
    rw [ht] at M
    refine WX.join ((Al, cl, xs)) envSub.sf ⟨M.sel Sel.a, hx⟩
   ·refine WL.on rfl rfl (WL.fieldR (off := 0) Tryz.underlying144 rfl rfl Tryz.sizeOf5 rfl rfl rfl ?_)
    refine WL.on rfl rfl (WL.loadR Tryz.isAgg5 rfl M Has.a rfl rfl (WL.on rfl rfl (WL.neI rfl rfl rfl (WL.pickF rfl rfl rfl (WL.nil (WX.next (W.sub [(0, _), (2, _), (3, _), (24, _)] (.cons rfl (.cons rfl (.cons rfl (.cons rfl .nil)))) (W.ite rfl (fun c1 => ?_) (fun c1 => ?_)))))))))
    ·refine W.exit (WX.thenExit (WX.blockPast rfl (WX.thenExit (WX.blockHere ?_))))
     have hbad : er ≠ 0 ∨ kd ≠ 2 := by first | (exact .inl (by simpa using c0)) | (exact .inr (fun h => c1 (by rw [h]; rfl)))
     rw [if_pos hbad] at hx ht
     dsimp only at hx ht
     rw [List.append_nil] at hx
     rw [ht] at M
     refine WX.join ((Al, cl, xs)) envSub.sf ⟨M.sel Sel.a, hx⟩
    ·have he : er = 0 := by simpa using c0
     have hkd : kd = 2 := by
      have h1 : kd.toNat = 2 := by
       have : (kd.toNat : Int) = 2 := by simpa using c1
       omega
      exact UInt8.toNat_inj.1 h1
     obtain ⟨kd2, bd2, hg2, hb2, hb3, _⟩ := getG_at ha (by rw [hg]; exact he)
     rw [hg] at hg2
     obtain ⟨rfl, rfl, rfl, _⟩ : kd = kd2 ∧ bd = bd2 ∧ to = ((a + (bd2.length + 10) : Nat) : Int) ∧ er = 0 := by simpa using hg2
     rw [if_neg (by rintro (h | h); exact h he; exact h hkd)] at hx ht
     dsimp only at hx ht
     rw [Int.toNat_natCast] at hx ht
     refine W.skip (WX.next (W.seq (W.drawM ([waRow g gd e h ga ca Al xs.length cl 0 a false, Asr.row g0_13 144 [.int .u8 (kd.toNat : Int), .slice A2 bd.length q2]]) (by kernel_rfl) (fun j => [4, 6, 7].contains j) M Sel.a ?_)))
     clear M; intro M
     apply DG.pure_ [0, 1, 2, 3, 5] 7 rfl (by kernel_rfl) (by kernel_rfl)
     ·intro w
      refine WL.move rfl rfl (WL.move rfl rfl (WL.nilCheck rfl rfl (WL.fieldR (off := 4) Tryz.underlying131 rfl rfl Tryz.sizeOf82 rfl rfl rfl ?_)))
      refine WL.fieldR (off := 1) Tryz.underlying144 rfl rfl Tryz.sizeOf84 rfl rfl rfl ?_
      exact Chain.end_ rfl
     apply DG.take [4, 6] 5 rfl (by kernel_rfl) (by kernel_rfl) (M.sel Sel.a)
     ·intro w M
      refine WL.loadR Tryz.isAgg82 rfl M Has.a rfl rfl (WL.loadR Tryz.isAgg84 rfl M Has.a rfl rfl ?_)
      exact Chain.end_ rfl
     refine DG.step 7 4 rfl (by kernel_rfl) ?_
     refine WL.buildL (E := oxE) (l := [(⟨A2, q2, bd⟩ : OX)]) Tryz.elem84 M rfl rfl rfl rfl rfl rfl ?_
     intro g2_7 w M
     refine DG.go (G := fun j => [4, 6, 7].contains j) (i := 7) (f' := 4) (done := [0, 1, 2, 3, 5, 4, 6]) (fun _ => M.sel Sel.a) ?_
     refine DG.step 8 3 rfl (by kernel_rfl) ?_
     refine WL.appendL (E := oxE) Tryz.elem84 rfl rfl M Del.a (by first | with_reducible assumption | with_reducible exact RdL.mem (by with_reducible assumption) M | exact M.rdL Has.a | exact RdLH.at (by assumption) (M.sel Sel.a) | exact RdL.nil _ _ _) rfl rfl (by first | omega | (simp; done) | (simp; omega)) (by first | (simp only [maxLen]; omega) | (simp [maxLen]; done) | (simp [maxLen]; omega)) rfl ?_
     intro A2_8 cap2_8 w M
     refine DG.go (G := fun j => [4, 6, 7].contains j) (i := 8) (f' := 3) (done := [0, 1, 2, 3, 5, 4, 6, 7]) (fun h => by cases h) ?_
     apply DG.pure_ [9, 10] 1 rfl (by kernel_rfl) (by kernel_rfl)
     ·intro w
      refine WL.nilCheck rfl rfl (WL.fieldR (off := 4) Tryz.underlying131 rfl rfl Tryz.sizeOf82 rfl rfl rfl ?_)
      exact Chain.end_ rfl
     refine DG.step 11 0 rfl (by kernel_rfl) ?_
     refine WL.storeR Tryz.sizeOf82 rfl rfl rfl M Has.a (by repeat (first | exact SetAt.zero | apply SetAt.succ)) Upd.a ?_
     intro w M
     refine DG.go (G := fun j => [4, 6, 7].contains j) (i := 11) (f' := 0) (done := [0, 1, 2, 3, 5, 4, 6, 7, 8, 9, 10]) (fun h => by cases h) ?_
     refine DG.end_ (by kernel_rfl) ?_
     refine WX.next (W.sub [(0, _), (3, _)] (.cons rfl (.cons rfl .nil)) (W.region (WL.move rfl rfl (WL.move rfl rfl (WL.nilCheck rfl rfl (WL.fieldR (off := 6) Tryz.underlying131 rfl rfl Tryz.sizeOf3 rfl rfl rfl ?_))))))
     refine WL.storeR Tryz.sizeOf3 rfl rfl rfl M Has.a (by repeat (first | exact SetAt.zero | apply SetAt.succ)) Upd.a ?_
     intro w M
     refine WL.nil (WX.blockNormal ?_)
     skip
     have M2 : Mem w0 w (Asr.star ((xs ++ [(⟨A2, q2, bd⟩ : OX)]).map OX.O) :: waRow g gd e h ga ca A2_8 (xs ++ [(⟨A2, q2, bd⟩ : OX)]).length cap2_8 0 (a + (bd.length + 10)) false :: Asr.lst oxE A2_8 cap2_8 (xs ++ [(⟨A2, q2, bd⟩ : OX)]) :: L') := by
      rw [List.map_append]
      refine Mem.starSnoc ?_
      exact M.sel Sel.a
     replace M := M2
     have q1 : (xs ++ [(⟨A2, q2, bd⟩ : OX)]).map OX.l ++ (scanB b f' (a + (bd.length + 10))).1 = T.1 := by rw [List.map_append, List.append_assoc]; exact hx
     refine WX.round ((f', a + (bd.length + 10), A2_8, cap2_8, xs ++ [(⟨A2, q2, bd⟩ : OX)])) envSub.sf ⟨M.sel Sel.a, ⟨by dsimp only; omega, hb3, q1, ht, by dsimp only; rw [List.length_append]; simp; omega⟩⟩ (by first | omega | (dsimp only; omega))
  ·refine WL.alloc Tryz.zeroValue144 M rfl ?_
   intro g0_13 w M
   try simp only [Value.cells] at M
   try simp only [List.toList_toArray] at M
   refine DG.go (G := fun j => [3, 7, 13].contains j) (i := 13) (f' := 8) (done := [0, 1, 2, 4, 5, 6, 3, 7]) (fun _ => M.sel Sel.a) ?_
   refine DG.step 8 7 rfl (by kernel_rfl) ?_
   rw [← hb]
   refine WL.call Tryz.call85 rfl (Get_ok b (some ⟨ga, 0, none⟩) ca (a : Int) _ (har.at (M.sel Sel.a)) (by omega) (by omega)) rfl ?_
   rintro _ w hgot
   rw [hg] at hgot
   obtain ⟨A2, q2, rfl, m⟩ := hgot
   replace M := M.call1 m; clear m
   refine DG.go (G := fun j => [3, 7, 13].contains j) (i := 8) (f' := 7) (done := [0, 1, 2, 4, 5, 6, 3, 7, 13]) (fun h => by cases h) ?_
   apply DG.pure_ [9, 10, 11, 12] 3 rfl (by kernel_rfl) (by kernel_rfl)
   ·intro w
    refine WL.move rfl rfl (WL.extractL rfl rfl rfl (WL.extractL rfl rfl rfl (WL.extractL rfl rfl rfl ?_)))
    exact Chain.end_ rfl
   refine DG.step 14 2 rfl (by kernel_rfl) ?_
   refine WL.storeWA Tryz.sizeOf144 rfl rfl (by repeat (first | exact oneNil | refine oneCons rfl ?_)) rfl rfl M Upd.a ?_
   intro w M
   refine DG.go (G := fun j => [3, 7, 13].contains j) (i := 14) (f' := 2) (done := [0, 1, 2, 4, 5, 6, 3, 7, 13, 8, 9, 10, 11, 12]) (fun h => by cases h) ?_
   apply DG.pure_ [15, 16] 0 rfl (by kernel_rfl) (by kernel_rfl)
   ·intro w
    refine WL.assign rfl rfl (WL.assign rfl rfl ?_)
    exact Chain.end_ rfl
   refine DG.end_ (by kernel_rfl) ?_
   refine WX.next (W.sub [(0, _), (2, _), (3, _), (4, _)] (.cons rfl (.cons rfl (.cons rfl (.cons rfl .nil)))) (W.seq (W.seq (W.region (WL.move rfl rfl (WL.neI rfl rfl rfl (WL.moveIf rfl rfl (fun c0 => ?_) (fun c0 => ?_))))))))
   ·refine WL.off rfl rfl rfl rfl (WL.off rfl rfl rfl rfl (WL.off rfl rfl rfl rfl (WL.pickT rfl rfl rfl (WL.nil (WX.next (W.sub [(0, _), (2, _), (3, _), (24, _)] (.cons rfl (.cons rfl (.cons rfl (.cons rfl .nil)))) (W.condT rfl (W.exit (WX.thenExit (WX.blockPast rfl (WX.thenExit (WX.blockHere ?_))))))))))))
    have hbad : er ≠ 0 ∨ kd ≠ 2 := by first | (exact .inl (by simpa using c0)) | (exact .inr (fun h => c1 (by rw [h]; rfl)))
    rw [if_pos hbad] at hx ht
    dsimp only at hx ht
    rw [List.append_nil] at hx
    rw [ht] at M
    refine WX.join ((Al, cl, xs)) envSub.sf ⟨M.sel Sel.a, hx⟩
   ·refine WL.on rfl rfl (WL.fieldR (off := 0) Tryz.underlying144 rfl rfl Tryz.sizeOf5 rfl rfl rfl ?_)
    refine WL.on rfl rfl (WL.loadR Tryz.isAgg5 rfl M Has.a rfl rfl (WL.on rfl rfl (WL.neI rfl rfl rfl (WL.pickF rfl rfl rfl (WL.nil (WX.next (W.sub [(0, _), (2, _), (3, _), (24, _)] (.cons rfl (.cons rfl (.cons rfl (.cons rfl .nil)))) (W.ite rfl (fun c1 => ?_) (fun c1 => ?_)))))))))
    ·refine W.exit (WX.thenExit (WX.blockPast rfl (WX.thenExit (WX.blockHere ?_))))
     have hbad : er ≠ 0 ∨ kd ≠ 2 := by first | (exact .inl (by simpa using c0)) | (exact .inr (fun h => c1 (by rw [h]; rfl)))
     rw [if_pos hbad] at hx ht
     dsimp only at hx ht
     rw [List.append_nil] at hx
     rw [ht] at M
     refine WX.join ((Al, cl, xs)) envSub.sf ⟨M.sel Sel.a, hx⟩
    ·have he : er = 0 := by simpa using c0
     have hkd : kd = 2 := by
      have h1 : kd.toNat = 2 := by
       have : (kd.toNat : Int) = 2 := by simpa using c1
       omega
      exact UInt8.toNat_inj.1 h1
     obtain ⟨kd2, bd2, hg2, hb2, hb3, _⟩ := getG_at ha (by rw [hg]; exact he)
     rw [hg] at hg2
     obtain ⟨rfl, rfl, rfl, _⟩ : kd = kd2 ∧ bd = bd2 ∧ to = ((a + (bd2.length + 10) : Nat) : Int) ∧ er = 0 := by simpa using hg2
     rw [if_neg (by rintro (h | h); exact h he; exact h hkd)] at hx ht
     dsimp only at hx ht
     rw [Int.toNat_natCast] at hx ht
     refine W.skip (WX.next (W.seq (W.drawM ([waRow g gd e h ga ca Al xs.length cl 0 a false, Asr.row g0_13 144 [.int .u8 (kd.toNat : Int), .slice A2 bd.length q2]]) (by kernel_rfl) (fun j => [4, 6, 7].contains j) M Sel.a ?_)))
     clear M; intro M
     apply DG.pure_ [0, 1, 2, 3, 5] 7 rfl (by kernel_rfl) (by kernel_rfl)
     ·intro w
      refine WL.move rfl rfl (WL.move rfl rfl (WL.nilCheck rfl rfl (WL.fieldR (off := 4) Tryz.underlying131 rfl rfl Tryz.sizeOf82 rfl rfl rfl ?_)))
      refine WL.fieldR (off := 1) Tryz.underlying144 rfl rfl Tryz.sizeOf84 rfl rfl rfl ?_
      exact Chain.end_ rfl
     apply DG.take [4, 6] 5 rfl (by kernel_rfl) (by kernel_rfl) (M.sel Sel.a)
     ·intro w M
      refine WL.loadR Tryz.isAgg82 rfl M Has.a rfl rfl (WL.loadR Tryz.isAgg84 rfl M Has.a rfl rfl ?_)
      exact Chain.end_ rfl
     refine DG.step 7 4 rfl (by kernel_rfl) ?_
     refine WL.buildL (E := oxE) (l := [(⟨A2, q2, bd⟩ : OX)]) Tryz.elem84 M rfl rfl rfl rfl rfl rfl ?_
     intro g2_7 w M
     refine DG.go (G := fun j => [4, 6, 7].contains j) (i := 7) (f' := 4) (done := [0, 1, 2, 3, 5, 4, 6]) (fun _ => M.sel Sel.a) ?_
     refine DG.step 8 3 rfl (by kernel_rfl) ?_
     refine WL.appendL (E := oxE) Tryz.elem84 rfl rfl M Del.a (by first | with_reducible assumption | with_reducible exact RdL.mem (by with_reducible assumption) M | exact M.rdL Has.a | exact RdLH.at (by assumption) (M.sel Sel.a) | exact RdL.nil _ _ _) rfl rfl (by first | omega | (simp; done) | (simp; omega)) (by first | (simp only [maxLen]; omega) | (simp [maxLen]; done) | (simp [maxLen]; omega)) rfl ?_
     intro A2_8 cap2_8 w M
     refine DG.go (G := fun j => [4, 6, 7].contains j) (i := 8) (f' := 3) (done := [0, 1, 2, 3, 5, 4, 6, 7]) (fun h => by cases h) ?_
     apply DG.pure_ [9, 10] 1 rfl (by kernel_rfl) (by kernel_rfl)
     ·intro w
      refine WL.nilCheck rfl rfl (WL.fieldR (off := 4) Tryz.underlying131 rfl rfl Tryz.sizeOf82 rfl rfl rfl ?_)
      exact Chain.end_ rfl
     refine DG.step 11 0 rfl (by kernel_rfl) ?_
     refine WL.storeR Tryz.sizeOf82 rfl rfl rfl M Has.a (by repeat (first | exact SetAt.zero | apply SetAt.succ)) Upd.a ?_
     intro w M
     refine DG.go (G := fun j => [4, 6, 7].contains j) (i := 11) (f' := 0) (done := [0, 1, 2, 3, 5, 4, 6, 7, 8, 9, 10]) (fun h => by cases h) ?_
     refine DG.end_ (by kernel_rfl) ?_
     refine WX.next (W.sub [(0, _), (3, _)] (.cons rfl (.cons rfl .nil)) (W.region (WL.move rfl rfl (WL.move rfl rfl (WL.nilCheck rfl rfl (WL.fieldR (off := 6) Tryz.underlying131 rfl rfl Tryz.sizeOf3 rfl rfl rfl ?_))))))
     refine WL.storeR Tryz.sizeOf3 rfl rfl rfl M Has.a (by repeat (first | exact SetAt.zero | apply SetAt.succ)) Upd.a ?_
     intro w M
     refine WL.nil (WX.blockNormal ?_)
     skip
     have M2 : Mem w0 w (Asr.star ((xs ++ [(⟨A2, q2, bd⟩ : OX)]).map OX.O) :: waRow g gd e h ga ca A2_8 (xs ++ [(⟨A2, q2, bd⟩ : OX)]).length cap2_8 0 (a + (bd.length + 10)) false :: Asr.lst oxE A2_8 cap2_8 (xs ++ [(⟨A2, q2, bd⟩ : OX)]) :: L') := by
      rw [List.map_append]
      refine Mem.starSnoc ?_
      exact M.sel Sel.a
     replace M := M2
     have q1 : (xs ++ [(⟨A2, q2, bd⟩ : OX)]).map OX.l ++ (scanB b f' (a + (bd.length + 10))).1 = T.1 := by rw [List.map_append, List.append_assoc]; exact hx
     refine WX.round ((f', a + (bd.length + 10), A2_8, cap2_8, xs ++ [(⟨A2, q2, bd⟩ : OX)])) envSub.sf ⟨M.sel Sel.a, ⟨by dsimp only; omega, hb3, q1, ht, by dsimp only; rw [List.length_append]; simp; omega⟩⟩ (by first | omega | (dsimp only; omega))
 clear M; rintro (⟨Al, cl, xs⟩) w ⟨M, hx⟩; dsimp only at M hx ⊢
 refine W.sub [(0, _)] (.cons rfl .nil) (W.region (WL.move rfl rfl (WL.move rfl rfl (WL.nilCheck rfl rfl (WL.fieldR (off := 4) Tryz.underlying131 rfl rfl Tryz.sizeOf82 rfl rfl rfl ?_)))))
 refine WL.loadR Tryz.isAgg82 rfl M Has.a rfl rfl (WL.len Tryz.underlying82 rfl rfl (WL.nilCheck rfl rfl (WL.fieldR (off := 5) Tryz.underlying131 rfl rfl Tryz.sizeOf3 rfl rfl rfl ?_)))
 refine WL.storeR Tryz.sizeOf3 rfl rfl rfl M Has.a (by repeat (first | exact SetAt.zero | apply SetAt.succ)) Upd.a ?_
 intro w M
 refine WL.nil (WX.end0 rfl ?_)
 exact ⟨Al, cl, xs, hx, M.sel Sel.a⟩
end
end Go.Proofs.YtlminileigfkcaaGreat
namespace Go.Proofs.YtlminileigfkcaaGreat
open Go Go.RowKit Crc Bin
theorem sixI {b : Bool} (h : (if b then (6 : Int) else 0) ≠ 0) : b = true := by cases b <;> simp_all
theorem sixN {b : Bool} (h : ¬ (if b then (6 : Int) else 0) ≠ 0) : b = false := by cases b <;> simp_all
theorem secAt_rd {w : World} {ga ca i : Nat} {b : List UInt8} (h : RdB w (some ⟨ga, 0, none⟩) ca b) (hi : i * 32 + 32 ≤ b.length) : RdB w (some ⟨ga, i * 32, none⟩) (ca - i * 32) (secAt b i).l := by
 have h1 := h.sub (i := i * 32) (j := i * 32 + 32) (by omega) hi
 rw [cutA_lit (by have := h.le; omega), Nat.mul_one] at h1
 rw [secAt_eq (by omega)]
 unfold Proofs.YtlminileigfkcaaGreat.sub at h1
 rw [show i * 32 + 32 - i * 32 = 32 by omega, Nat.mul_comm i 32] at h1
 rw [Nat.mul_comm i 32]
 exact h1
set_option maxHeartbeats 4000000 in
set_option maxRecDepth 10000 in
theorem walAppend_ok (x : WaX) (k : DkX) (hx : x.ok) (hk : k.d.ok) (hgd : x.gd = k.g) (hsz : 2 + 2 * x.h ≤ k.d.safe.length) (hwa : k.d.waits.length ≤ 90000) (b : List UInt8) (A : Option Addr) (cap : Nat) (hbl : b.length ≤ 1000000) (w0 w : World) (L L1 L2 : List Asr) (M : Mem w0 w L) (hd1 : Del x.O L L1) (hd2 : Del k.O L1 L2) (hb : RdH w0 L2 A cap b) :
 Fn Tryz.prog 73 [.pointer (some ⟨x.g, 0, none⟩), .slice A b.length cap] w fun v w' => v = .int .i64 ((appendW x.h x.s k.d b).1 : Int) ∧ ∃ (x' : WaX) (k' : DkX), x'.g = x.g ∧ x'.gd = x.gd ∧ x'.h = x.h ∧ x'.s = (appendW x.h x.s k.d b).2.1 ∧ x'.ok ∧ k'.g = k.g ∧ k'.d = (appendW x.h x.s k.d b).2.2 ∧ k'.d.ok ∧ k'.d.safe.length = k.d.safe.length ∧ k'.d.waits.length ≤ k.d.waits.length + 1100 ∧
  Mem w0 w' (x'.O :: k'.O :: L2) := by
 have M1 := ((M.del hd1).perm (List.Perm.cons _ hd2.perm)).unstar4
 clear M
 have M := M1
 obtain ⟨⟨hlo, hhi, hfits, hshort, hep, hn⟩, hxs⟩ := hx
 obtain ⟨g, gd, h, ga, ca, Al, cl, xs, s⟩ := x
 dsimp only at *
 subst hgd
 obtain ⟨e, l, n, dead⟩ := s
 unfold usedW at hfits M
 dsimp only at *
 obtain ⟨u, hu⟩ : ∃ u, u = (framesB l).length := ⟨_, rfl⟩
 have hal : (areaB h l).length = 32 * h := areaB_length hfits
 have hfew := framesB_few l hshort
 rw [← hu] at hfits M hfew
 have hca : 32 * h ≤ ca := by have := (M.rdB (l := areaB h l) (.there .here)).le; omega
 have hxl : xs.length = l.length := by have := congrArg List.length hxs; simpa using this
 refine Fn.enter Tryz.func73 rfl Tryz.ntmps73 rfl (W.sub [(0, _), (1, _)] (.cons rfl (.cons rfl .nil)) (W.seq (W.region (WL.box rfl M rfl ?_))))
 intro g0_0 w M
 try simp only [Value.cells] at M
 try simp only [List.toList_toArray] at M
 refine WL.assign rfl rfl (WL.nil (WX.next (W.sub [(1, _), (2, _)] (.cons rfl (.cons rfl .nil)) (W.seq (W.seq (W.region (WL.loadR Tryz.isAgg76 rfl M Has.a rfl rfl (WL.call Tryz.call53 rfl (walReady_ok w0 w _ _ k M Del.a Has.a) rfl ?_))))))))
 rintro _ w ⟨rfl, M⟩
 refine WL.assign rfl rfl (WL.nil (WX.next (W.sub [(1, _), (2, _), (5, _)] (.cons rfl (.cons rfl (.cons rfl .nil))) (W.seq (W.region (WL.move rfl rfl (WL.neI rfl rfl rfl (WL.nil (WX.next (W.sub [(1, _), (2, _), (5, _), (12, _)] (.cons rfl (.cons rfl (.cons rfl (.cons rfl .nil)))) (W.ite rfl (fun c0 => ?_) (fun c0 => ?_))))))))))))
 ·refine W.seq (W.region (WL.move rfl rfl (WL.assign rfl rfl (WL.nil (WX.next (W.sub [(4, _)] (.cons rfl .nil) (W.ret (WX.thenRet (WX.ret1 rfl rfl ?_)))))))))
  have hdd := sixI c0
  rw [hdd] at M
  have hor : dead = true ∨ k.d.down = true := by simpa using hdd
  have e1 : appendW h ⟨e, l, n, dead⟩ k.d b = (6, ⟨e, l, n, true⟩, k.d) := by unfold appendW; rw [if_pos hor]
  rw [e1, hdd]
  refine ⟨rfl, ⟨g, k.g, h, ga, ca, Al, cl, xs, ⟨e, l, n, true⟩⟩, k, rfl, rfl, rfl, rfl, ⟨⟨hlo, hhi, by unfold usedW; dsimp only; omega, hshort, hep, hn⟩, hxs⟩, rfl, rfl, hk, rfl, by omega, ?_⟩
  unfold WaX.O usedW
  dsimp only
  rw [← hu]
  exact Mem.star4 (M.sel Sel.a)
 ·have hdd := sixN c0
  rw [hdd] at M
  obtain ⟨hd, hdn⟩ : dead = false ∧ k.d.down = false := by simpa using hdd
  rw [hd]
  have hno : ¬ ((false : Bool) = true ∨ k.d.down = true) := by rw [hdn]; simp
  refine W.skip (WX.next (W.seq (W.region (WL.move rfl rfl (WL.call Tryz.call107 rfl (Put_ok 2 b A cap _ (by first | first | with_reducible assumption | with_reducible exact RdB.mem (by with_reducible assumption) M | exact M.rdB Has.a | exact RdH.at (by assumption) (M.sel Sel.a) | exact M.rdLit' Has.a | exact M.rdLent Has.a | exact RdB.nil _ _ | exact RdB.sub (by first | with_reducible assumption | with_reducible exact RdB.mem (by with_reducible assumption) M | exact M.rdB Has.a | exact RdH.at (by assumption) (M.sel Sel.a) | exact M.rdLit' Has.a | exact M.rdLent Has.a | exact RdB.nil _ _) (by omega) (by omega) | exact RdB.pre' (by first | with_reducible assumption | with_reducible exact RdB.mem (by with_reducible assumption) M | exact M.rdB Has.a | exact RdH.at (by assumption) (M.sel Sel.a) | exact M.rdLit' Has.a | exact M.rdLent Has.a | exact RdB.nil _ _) (by omega) | exact RdB.suf (by first | with_reducible assumption | with_reducible exact RdB.mem (by with_reducible assumption) M | exact M.rdB Has.a | exact RdH.at (by assumption) (M.sel Sel.a) | exact M.rdLit' Has.a | exact M.rdLent Has.a | exact RdB.nil _ _) (by omega))) rfl ?_)))))
  rintro _ w ⟨Af, cf, rfl, m⟩
  replace M := M.call1 m; clear m
  refine WL.move rfl rfl (WL.extractL rfl rfl rfl (WL.extractL rfl rfl rfl (WL.assign rfl rfl (WL.assign rfl rfl (WL.nil (WX.next (W.sub [(1, _), (2, _), (6, _), (7, _)] (.cons rfl (.cons rfl (.cons rfl (.cons rfl .nil)))) (W.seq (W.block (W.seq (W.region (WL.move rfl rfl (WL.neI rfl rfl rfl (WL.assign rfl rfl (WL.nil (WX.next (W.sub [(1, _), (2, _), (6, _), (7, _), (19, _)] (.cons rfl (.cons rfl (.cons rfl (.cons rfl (.cons rfl .nil))))) (W.ite rfl (fun c1 => ?_) (fun c1 => ?_)))))))))))))))))))
  ·have hbig : 1024 < b.length := by unfold putE at c1; split at c1 <;> omega
   refine W.seq (W.region (WL.move rfl rfl (WL.assign rfl rfl (WL.nil (WX.next (W.sub [(4, _)] (.cons rfl .nil) (W.ret (WX.blockRet (WX.thenRet (WX.ret1 rfl rfl ?_))))))))))
   have e1 : appendW h ⟨e, l, n, false⟩ k.d b = (3, ⟨e, l, n, false⟩, k.d) := by unfold appendW; rw [if_neg hno, if_pos hbig]
   have e2 : putE b = 3 := by unfold putE; rw [if_pos hbig]
   rw [e1, e2]
   refine ⟨rfl, ⟨g, k.g, h, ga, ca, Al, cl, xs, ⟨e, l, n, false⟩⟩, k, rfl, rfl, rfl, rfl, ⟨⟨hlo, hhi, by unfold usedW; dsimp only; omega, hshort, hep, hn⟩, hxs⟩, rfl, rfl, hk, rfl, by omega, ?_⟩
   unfold WaX.O usedW
   dsimp only
   rw [← hu]
   exact Mem.star4 (M.sel Sel.a)
  ·have hsm : b.length ≤ 1024 := by unfold putE at c1; split at c1 <;> omega
   have hpl := putG_length (k := 2) hsm
   refine W.seq (W.region (WL.move rfl rfl (WL.len Tryz.underlying84 rfl rfl (WL.loadR Tryz.isAgg76 rfl M Has.a rfl rfl (WL.call Tryz.call108 rfl (walRoom_ok w0 w _ _ k hfits (by omega) hdn M Del.a Has.a) rfl ?_)))))
   rintro _ w ⟨rfl, M⟩
   refine WL.gtr rfl rfl rfl (WL.assign rfl rfl (WL.nil (WX.next (W.sub [(1, _), (2, _), (6, _), (23, _)] (.cons rfl (.cons rfl (.cons rfl (.cons rfl .nil)))) (W.ite rfl (fun c2 => ?_) (fun c2 => ?_))))))
   ·refine W.seq (W.region (WL.assign rfl rfl (WL.nil (WX.next (W.sub [(4, _)] (.cons rfl .nil) (W.ret (WX.blockRet (WX.thenRet (WX.ret1 rfl rfl ?_)))))))))
    have e1 : appendW h ⟨e, l, n, false⟩ k.d b = (5, ⟨e, l, n, false⟩, k.d) := by unfold appendW; rw [if_neg hno, if_neg (by omega), if_pos (by unfold usedW; dsimp only; omega)]
    rw [e1]
    refine ⟨rfl, ⟨g, k.g, h, ga, ca, Al, cl, xs, ⟨e, l, n, false⟩⟩, k, rfl, rfl, rfl, rfl, ⟨⟨hlo, hhi, by unfold usedW; dsimp only; omega, hshort, hep, hn⟩, hxs⟩, rfl, rfl, hk, rfl, by omega, ?_⟩
    unfold WaX.O usedW
    dsimp only
    rw [← hu]
    exact Mem.star4 (M.sel Sel.a)
   ·have hfit : u + (b.length + 10) ≤ 32 * h := by omega
    obtain ⟨gf, rfl⟩ := M.ownSome (A := Af) (n := (putG 2 b).length) Has.a (by omega)
    have hfl : (framesB (l ++ [b])).length = u + (b.length + 10) := by rw [framesB_snoc, List.length_append, hpl, ← hu]
    have hal2 : (areaB h (l ++ [b])).length = 32 * h := areaB_length (by omega)
    refine W.skip (WX.blockNormal (WX.next (W.seq (W.region (WL.loadR Tryz.isAgg76 rfl M Has.a rfl rfl (WL.nilCheck rfl rfl (WL.fieldR (off := 6) Tryz.underlying131 rfl rfl Tryz.sizeOf3 rfl rfl rfl ?_)))))))
    refine WL.loadR Tryz.isAgg3 rfl M Has.a rfl rfl (WL.assign rfl rfl (WL.nil (WX.next (W.sub [(1, _), (2, _), (6, _), (8, _)] (.cons rfl (.cons rfl (.cons rfl (.cons rfl .nil)))) (W.seq (W.drawM ([Asr.row g0_0 76 [.pointer (some ⟨g, 0, none⟩)], waRow g k.g e h ga ca Al xs.length cl n u false]) (by kernel_rfl) (fun j => [0, 1, 2, 3, 4, 5, 6, 7, 9, 11].contains j) M Sel.a ?_))))))
    clear M; intro M
    apply DG.pure_ [8, 10] 14 rfl (by kernel_rfl) (by kernel_rfl)
    ·intro w
     refine WL.move rfl rfl (WL.move rfl rfl ?_)
     exact Chain.end_ rfl
    apply DG.take [0, 1, 2, 3, 4, 5, 6, 7, 9] 5 rfl (by kernel_rfl) (by kernel_rfl) (M.sel Sel.a)
    ·intro w M
     refine WL.loadR Tryz.isAgg76 rfl M Has.a rfl rfl (WL.nilCheck rfl rfl (WL.fieldR (off := 6) Tryz.underlying131 rfl rfl Tryz.sizeOf3 rfl rfl rfl ?_))
     refine WL.loadR Tryz.isAgg3 rfl M Has.a rfl rfl (WL.loadR Tryz.isAgg76 rfl M Has.a rfl rfl (WL.nilCheck rfl rfl (WL.fieldR (off := 3) Tryz.underlying131 rfl rfl Tryz.sizeOf84 rfl rfl rfl ?_)))
     refine WL.loadR Tryz.isAgg84 rfl M Has.a rfl rfl (WL.cutL Tryz.underlying84 Tryz.sizeOf5 rfl rfl (by omega) (by omega) (by first | exact rfl | exact (Int.toNat_of_nonneg (by omega)).symm) rfl rfl ?_)
     exact Chain.end_ rfl
    refine DG.step 11 4 rfl (by kernel_rfl) ?_
    rw [cutA_lit (by omega), Nat.mul_one]
    refine WL.copyB (k := b.length + 10) (l := areaB h l) (l' := areaB h (l ++ [b])) (o := u) (src := putG 2 b) Tryz.underlying84 Tryz.sizeOf5 rfl rfl (by rw [hpl]; exact Nat.min_eq_left (by omega)) hpl (RdB.src (M.rdB Has.a)) (by omega) (by rw [hu, hpl]; exact areaB_snoc hsm (by omega)) (by omega) M Upd.a rfl ?_
    intro w M
    refine DG.go (G := fun j => [0, 1, 2, 3, 4, 5, 6, 7, 9, 11].contains j) (i := 11) (f' := 4) (done := [8, 10, 0, 1, 2, 3, 4, 5, 6, 7, 9]) (fun _ => M.sel Sel.a) ?_
    apply DG.pure_ [12, 13, 14] 1 rfl (by kernel_rfl) (by kernel_rfl)
    ·intro w
     refine WL.add rfl rfl (by first | exact wI64 (by omega) | rfl) rfl ?_
     refine WL.nilCheck rfl rfl (WL.fieldR (off := 6) Tryz.underlying131 rfl rfl Tryz.sizeOf3 rfl rfl rfl ?_)
     exact Chain.end_ rfl
    refine DG.step 15 0 rfl (by kernel_rfl) ?_
    refine WL.storeR Tryz.sizeOf3 rfl rfl rfl M Has.a (by repeat (first | exact SetAt.zero | apply SetAt.succ)) Upd.a ?_
    intro w M
    refine DG.go (G := fun j => [0, 1, 2, 3, 4, 5, 6, 7, 9, 11].contains j) (i := 15) (f' := 0) (done := [8, 10, 0, 1, 2, 3, 4, 5, 6, 7, 9, 11, 12, 13, 14]) (fun h => by cases h) ?_
    refine DG.end_ (by kernel_rfl) ?_
    refine WX.next (W.sub [(1, _), (2, _), (8, _)] (.cons rfl (.cons rfl (.cons rfl .nil))) (W.seq ?_))
    have M1 : Mem w0 w (Asr.row g0_0 76 [.pointer (some ⟨g, 0, none⟩)] :: waRow g k.g e h ga ca Al xs.length cl n (u + (b.length + 10)) false :: Asr.own 5 1 (some ⟨ga, 0, none⟩) (areaB h l).length ca (bs (areaB h (l ++ [b]))) :: Asr.lst oxE Al cl xs :: Asr.star (xs.map OX.O) :: k.O :: L2) := M.sel Sel.a
    replace M := M1
    refine W.drawM ([Asr.row g0_0 76 [.pointer (some ⟨g, 0, none⟩)], waRow g k.g e h ga ca Al xs.length cl n (u + (b.length + 10)) false] ++ L2) (by kernel_rfl) (fun j => [0, 1, 2, 3, 4, 5, 7, 8, 9].contains j) M Sel.a ?_
    clear M; intro M
    apply DG.pure_ [6] 12 rfl (by kernel_rfl) (by kernel_rfl)
    ·intro w
     refine WL.move rfl rfl ?_
     exact Chain.end_ rfl
    apply DG.take [0, 1, 2, 3, 4] 7 rfl (by kernel_rfl) (by kernel_rfl) (M.sel Sel.a)
    ·intro w M
     refine WL.loadR Tryz.isAgg76 rfl M Has.a rfl rfl (WL.loadR Tryz.isAgg76 rfl M Has.a rfl rfl (WL.nilCheck rfl rfl (WL.fieldR (off := 4) Tryz.underlying131 rfl rfl Tryz.sizeOf82 rfl rfl rfl ?_)))
     refine WL.loadR Tryz.isAgg82 rfl M Has.a rfl rfl ?_
     exact Chain.end_ rfl
    refine DG.step 5 6 rfl (by kernel_rfl) ?_
    refine WL.buildB (es := []) Tryz.elem5 M rfl rfl (by exact BytesOf.nil) (by rfl) rfl rfl ?_
    intro g11_5 w M
    refine DG.go (G := fun j => [0, 1, 2, 3, 4, 5, 7, 8, 9].contains j) (i := 5) (f' := 6) (done := [6, 0, 1, 2, 3, 4]) (fun _ => M.sel Sel.a) ?_
    refine DG.step 7 5 rfl (by kernel_rfl) ?_
    refine WL.appendBN Tryz.elem5 rfl rfl M Del.a (hb.at (M.sel Sel.a)) rfl rfl (by first | omega | (simp; done) | (simp; omega)) rfl ?_
    intro A11_7 cap11_7 w M
    refine DG.go (G := fun j => [0, 1, 2, 3, 4, 5, 7, 8, 9].contains j) (i := 7) (f' := 5) (done := [6, 0, 1, 2, 3, 4, 5]) (fun _ => M.sel Sel.a) ?_
    refine DG.step 8 4 rfl (by kernel_rfl) ?_
    refine WL.buildL (E := oxE) (l := [(⟨A11_7, cap11_7, b⟩ : OX)]) Tryz.elem84 M rfl rfl rfl rfl rfl rfl ?_
    intro g11_8 w M
    refine DG.go (G := fun j => [0, 1, 2, 3, 4, 5, 7, 8, 9].contains j) (i := 8) (f' := 4) (done := [6, 0, 1, 2, 3, 4, 5, 7]) (fun _ => M.sel Sel.a) ?_
    refine DG.step 9 3 rfl (by kernel_rfl) ?_
    refine WL.appendL (E := oxE) Tryz.elem84 rfl rfl M Del.a (by first | with_reducible assumption | with_reducible exact RdL.mem (by with_reducible assumption) M | exact M.rdL Has.a | exact RdLH.at (by assumption) (M.sel Sel.a) | exact RdL.nil _ _ _) rfl rfl (by first | omega | (simp; done) | (simp; omega)) (by first | (simp only [maxLen]; omega) | (simp [maxLen]; done) | (simp [maxLen]; omega)) rfl ?_
    intro A11_9 cap11_9 w M
    refine DG.go (G := fun j => [0, 1, 2, 3, 4, 5, 7, 8, 9].contains j) (i := 9) (f' := 3) (done := [6, 0, 1, 2, 3, 4, 5, 7, 8]) (fun _ => M.sel Sel.a) ?_
    apply DG.pure_ [10, 11] 1 rfl (by kernel_rfl) (by kernel_rfl)
    ·intro w
     refine WL.nilCheck rfl rfl (WL.fieldR (off := 4) Tryz.underlying131 rfl rfl Tryz.sizeOf82 rfl rfl rfl ?_)
     exact Chain.end_ rfl
    refine DG.step 12 0 rfl (by kernel_rfl) ?_
    refine WL.storeR Tryz.sizeOf82 rfl rfl rfl M Has.a (by repeat (first | exact SetAt.zero | apply SetAt.succ)) Upd.a ?_
    intro w M
    refine DG.go (G := fun j => [0, 1, 2, 3, 4, 5, 7, 8, 9].contains j) (i := 12) (f' := 0) (done := [6, 0, 1, 2, 3, 4, 5, 7, 8, 9, 10, 11]) (fun h => by cases h) ?_
    refine DG.end_ (by kernel_rfl) ?_
    refine WX.next (W.sub [(2, _), (8, _)] (.cons rfl (.cons rfl .nil)) (W.seq ?_))
    obtain ⟨xs2, hxs2⟩ : ∃ xs2, xs2 = xs ++ [(⟨A11_7, cap11_7, b⟩ : OX)] := ⟨_, rfl⟩
    have hxm : xs2.map OX.l = l ++ [b] := by rw [hxs2, List.map_append, hxs]; rfl
    have M2 : Mem w0 w (Asr.star (xs2.map OX.O) :: Asr.row g0_0 76 [.pointer (some ⟨g, 0, none⟩)] :: waRow g k.g e h ga ca A11_9 xs2.length cap11_9 n (u + (b.length + 10)) false :: Asr.own 5 1 (some ⟨ga, 0, none⟩) (areaB h (l ++ [b])).length ca (bs (areaB h (l ++ [b]))) :: Asr.lst oxE A11_9 cap11_9 xs2 :: k.O :: L2) := by
     rw [hxs2, List.map_append]
     refine Mem.starSnoc ?_
     rw [hal2, ← hal]
     exact M.sel Sel.a
    replace M := M2
    refine W.drawM ([Asr.row g0_0 76 [.pointer (some ⟨g, 0, none⟩)], waRow g k.g e h ga ca A11_9 xs2.length cap11_9 n (u + (b.length + 10)) false]) (by kernel_rfl) (fun j => [0, 1, 3, 4, 5, 6, 7, 8].contains j) M Sel.a ?_
    clear M; intro M
    apply DG.pure_ [2] 10 rfl (by kernel_rfl) (by kernel_rfl)
    ·intro w
     refine WL.move rfl rfl ?_
     exact Chain.end_ rfl
    apply DG.take [0, 1, 3, 4, 5, 6] 4 rfl (by kernel_rfl) (by kernel_rfl) (M.sel Sel.a)
    ·intro w M
     refine WL.loadR Tryz.isAgg76 rfl M Has.a rfl rfl (WL.loadR Tryz.isAgg76 rfl M Has.a rfl rfl (WL.loadR Tryz.isAgg76 rfl M Has.a rfl rfl (WL.nilCheck rfl rfl (WL.fieldR (off := 6) Tryz.underlying131 rfl rfl Tryz.sizeOf3 rfl rfl rfl ?_))))
     refine WL.loadR Tryz.isAgg3 rfl M Has.a rfl rfl ?_
     exact Chain.end_ rfl
    refine DG.step 7 3 rfl (by kernel_rfl) ?_
    refine WL.mkFn rfl rfl (DG.go (G := fun j => [0, 1, 3, 4, 5, 6, 7, 8].contains j) (i := 7) (f' := 3) (done := [2, 0, 1, 3, 4, 5, 6]) (fun _ => M.sel Sel.a) ?_)
    refine DG.step 8 2 rfl (by kernel_rfl) ?_
    obtain ⟨Lr, hLr⟩ : ∃ Lr, Lr = Asr.star (xs2.map OX.O) :: Asr.row g0_0 76 [.pointer (some ⟨g, 0, none⟩)] :: waRow g k.g e h ga ca A11_9 xs2.length cap11_9 n (u + (b.length + 10)) false :: Asr.own 5 1 (some ⟨ga, 0, none⟩) (areaB h (l ++ [b])).length ca (bs (areaB h (l ++ [b]))) :: Asr.lst oxE A11_9 cap11_9 xs2 :: L2 := ⟨_, rfl⟩
    have hM : Mem w0 w.drew (k.O :: Lr) := by rw [hLr]; exact M.sel Sel.a
    have he1 : firstN h e + h ≤ k.d.safe.length := by
     have : e % 2 * h ≤ 1 * h := Nat.mul_le_mul_right _ (by omega)
     unfold firstN
     omega
    refine WL.call Tryz.call87 rfl (walEach_ok (σ := Dk) (K := (u + b.length + 9) / 32 + 1 - u / 32) (ga := ga) (h := h) (ca := ca) _ #[.pointer (some ⟨g0_0, 0, none⟩)] (fun i d => d.write (firstN h e + i) (secAt (areaB h (l ++ [b])) i)) (fun i d w => ∃ k' : DkX, k'.g = k.g ∧ k'.d = d ∧ d.ok ∧ d.safe.length = k.d.safe.length ∧ d.waits.length ≤ k.d.waits.length + i ∧ Mem w0 w (k'.O :: Lr)) append1_call (by omega) (by omega) (by omega) hca (fun i d w ⟨k', _, _, _, _, _, M⟩ => by rw [hLr] at M; exact M.cellH (t := 131) Has.a 3) (fun i d w hi1 hi2 ⟨k', hk1, hk2, hk3, hk4, hk5, M⟩ => by
     subst hk2
     have hq : k'.g = k.g := hk1
     refine (append1_ok k' w0 w _ _ hk3 (secAt (areaB h (l ++ [b])) i) (g := g) (gb := g0_0) (h := h) (e := e) (i := i) (ro := [.pointer (some ⟨k.g, 0, none⟩), .int .u64 (e : Int), .int .i64 (h : Int), .slice (some ⟨ga, 0, none⟩) (32 * h) ca, .slice A11_9 xs2.length cap11_9, .int .i64 (n : Int), .int .i64 ((u + (b.length + 10) : Nat) : Int), .bool false]) (by rw [hq]; rfl) rfl rfl (by omega) (by omega) (by omega) M (by rw [hLr]; exact Has.a) (by rw [hLr]; exact Has.a) .here (by intro w M; rw [hLr] at M; exact secAt_rd (M.rdB Has.a) (by omega))).mono ?_
     rintro _ w' ⟨rfl, k2, q1, q2, M2⟩
     exact ⟨rfl, k2, q1.trans hk1, q2, Dk.write_ok hk3 _ (by omega) (by omega), by rw [Dk.write_len]; exact hk4, by have := Dk.write_few k'.d (firstN h e + i) (secAt (areaB h (l ++ [b])) i); omega, M2⟩) k.d _ ⟨k, rfl, rfl, hk, rfl, by omega, hM⟩) rfl ?_
    rintro _ w ⟨rfl, i9, ⟨hi9, _⟩, k2, q1, q2, q3, q4, q5, M⟩
    rw [hLr] at M
    refine DG.go (G := fun j => [0, 1, 3, 4, 5, 6, 7, 8].contains j) (i := 8) (f' := 2) (done := [2, 0, 1, 3, 4, 5, 6, 7]) (fun _ => M.sel Sel.a) ?_
    refine DG.step 9 1 rfl (by kernel_rfl) ?_
    refine WL.call Tryz.call109 rfl (walFails_ok w0 w _ _ _ M Del.a) rfl ?_
    rintro _ w ⟨rfl, M⟩
    refine DG.go (G := fun j => [0, 1, 3, 4, 5, 6, 7, 8].contains j) (i := 9) (f' := 1) (done := [2, 0, 1, 3, 4, 5, 6, 7, 8]) (fun h => by cases h) ?_
    apply DG.pure_ [10] 0 rfl (by kernel_rfl) (by kernel_rfl)
    ·intro w
     refine WL.assign rfl rfl ?_
     exact Chain.end_ rfl
    refine DG.end_ (by kernel_rfl) ?_
    refine WX.next (W.sub [(4, _)] (.cons rfl .nil) (W.ret (WX.ret1 rfl rfl ?_)))
    have e1 : appendW h ⟨e, l, n, false⟩ k.d b = ((layD (firstN h e) (areaB h (l ++ [b])) ((u + b.length + 9) / 32 + 1 - u / 32) (u / 32) k.d).1, ⟨e, l ++ [b], n, decide ((layD (firstN h e) (areaB h (l ++ [b])) ((u + b.length + 9) / 32 + 1 - u / 32) (u / 32) k.d).1 ≠ 0)⟩, (layD (firstN h e) (areaB h (l ++ [b])) ((u + b.length + 9) / 32 + 1 - u / 32) (u / 32) k.d).2) := by
     unfold appendW
     rw [if_neg hno, if_neg (by omega), if_neg (by unfold usedW; dsimp only; omega)]
     unfold usedW
     dsimp only
     rw [← hu]
    rw [e1]
    refine ⟨rfl, ⟨g, k.g, h, ga, ca, A11_9, cap11_9, xs2, ⟨e, l ++ [b], n, decide ((layD (firstN h e) (areaB h (l ++ [b])) ((u + b.length + 9) / 32 + 1 - u / 32) (u / 32) k.d).1 ≠ 0)⟩⟩, k2, rfl, rfl, rfl, rfl, ⟨⟨hlo, hhi, by unfold usedW; dsimp only; omega, fun y hy => ?_, hep, by dsimp only; rw [List.length_append]; omega⟩, hxm⟩, q1, q2, by rw [q2]; exact q3, by rw [q2]; exact q4, by rw [q2]; omega, ?_⟩
    ·rcases List.mem_append.1 hy with hy | hy
     ·exact hshort y hy
     ·obtain rfl : y = b := by simpa using hy
      exact hsm
    ·unfold WaX.O usedW
     dsimp only
     rw [hfl]
     exact Mem.star4 (M.sel Sel.a)
end Go.Proofs.YtlminileigfkcaaGreat
namespace Go.Proofs.YtlminileigfkcaaGreat
open Go Go.RowKit Crc Bin
theorem Dk.sync_len (d : Dk) : d.sync.2.safe.length = d.safe.length := by
 unfold Dk.sync
 split
 ·exact d.now_length
 ·rw [d.act_safe]
theorem Dk.sync_few (d : Dk) : d.sync.2.waits.length ≤ d.waits.length := by
 unfold Dk.sync
 split
 ·exact Nat.zero_le _
 ·rw [d.act_waits]; exact Nat.le_refl _
theorem Dk.sync_ok {d : Dk} (h : d.ok) : d.sync.2.ok := by
 have h1 := h.act
 have h2 := d.now_length
 unfold Dk.sync
 split
 ·exact ⟨by dsimp only; rw [h2]; exact h.pos, by dsimp only; rw [h2]; exact h.len, fun p hp => (by cases hp), h1.left, Nat.zero_le _⟩
 ·exact h1
set_option maxHeartbeats 1000000 in
set_option maxRecDepth 10000 in
theorem walSync_ok (x : WaX) (k : DkX) (hx : x.ok) (hk : k.d.ok) (hgd : x.gd = k.g) (w0 w : World) (L L1 L2 : List Asr) (M : Mem w0 w L) (hd1 : Del x.O L L1) (hd2 : Del k.O L1 L2) :
 Fn Tryz.prog 78 [.pointer (some ⟨x.g, 0, none⟩)] w fun v w' => v = .int .i64 ((syncW x.s k.d).1 : Int) ∧ ∃ (x' : WaX) (k' : DkX), x'.g = x.g ∧ x'.gd = x.gd ∧ x'.h = x.h ∧ x'.s = (syncW x.s k.d).2.1 ∧ x'.ok ∧ k'.g = k.g ∧ k'.d = (syncW x.s k.d).2.2 ∧ k'.d.ok ∧ k'.d.safe.length = k.d.safe.length ∧ k'.d.waits.length ≤ k.d.waits.length ∧
  Mem w0 w' (x'.O :: k'.O :: L2) := by
 have M1 := ((M.del hd1).perm (List.Perm.cons _ hd2.perm)).unstar4
 clear M
 have M := M1
 obtain ⟨⟨hlo, hhi, hfits, hshort, hep, hn⟩, hxs⟩ := hx
 obtain ⟨g, gd, h, ga, ca, Al, cl, xs, s⟩ := x
 dsimp only at *
 subst hgd
 obtain ⟨e, l, n, dead⟩ := s
 unfold usedW at hfits M
 dsimp only at *
 obtain ⟨u, hu⟩ : ∃ u, u = (framesB l).length := ⟨_, rfl⟩
 have hfew := framesB_few l hshort
 rw [← hu] at hfits M hfew
 have hxl : xs.length = l.length := by have := congrArg List.length hxs; simpa using this
 refine Fn.enter Tryz.func78 rfl Tryz.ntmps78 rfl (W.sub [(0, _)] (.cons rfl .nil) (W.seq (W.region (WL.assign rfl rfl (WL.nil (WX.next (W.sub [(0, _)] (.cons rfl .nil) (W.seq (W.seq (W.region (WL.move rfl rfl (WL.call Tryz.call53 rfl (walReady_ok w0 w _ _ k M Del.a Has.a) rfl ?_))))))))))))
 rintro _ w ⟨rfl, M⟩
 refine WL.assign rfl rfl (WL.nil (WX.next (W.sub [(0, _), (3, _)] (.cons rfl (.cons rfl .nil)) (W.seq (W.region (WL.move rfl rfl (WL.neI rfl rfl rfl (WL.nil (WX.next (W.sub [(0, _), (3, _), (8, _)] (.cons rfl (.cons rfl (.cons rfl .nil))) (W.ite rfl (fun c0 => ?_) (fun c0 => ?_))))))))))))
 ·refine W.seq (W.region (WL.move rfl rfl (WL.assign rfl rfl (WL.nil (WX.next (W.sub [(2, _)] (.cons rfl .nil) (W.ret (WX.thenRet (WX.ret1 rfl rfl ?_)))))))))
  have hdd := sixI c0
  rw [hdd] at M
  have hor : dead = true ∨ k.d.down = true := by simpa using hdd
  have e1 : syncW ⟨e, l, n, dead⟩ k.d = (6, ⟨e, l, n, true⟩, k.d) := by unfold syncW; rw [if_pos hor]
  rw [e1, hdd]
  refine ⟨rfl, ⟨g, k.g, h, ga, ca, Al, cl, xs, ⟨e, l, n, true⟩⟩, k, rfl, rfl, rfl, rfl, ⟨⟨hlo, hhi, by unfold usedW; dsimp only; omega, hshort, hep, hn⟩, hxs⟩, rfl, rfl, hk, rfl, Nat.le_refl _, ?_⟩
  unfold WaX.O usedW
  dsimp only
  rw [← hu]
  exact Mem.star4 (M.sel Sel.a)
 ·have hdd := sixN c0
  rw [hdd] at M
  obtain ⟨hd, hdn⟩ : dead = false ∧ k.d.down = false := by simpa using hdd
  rw [hd]
  have hno : ¬ ((false : Bool) = true ∨ k.d.down = true) := by rw [hdn]; simp
  refine W.skip (WX.next (W.seq (W.seq (W.region (WL.move rfl rfl (WL.move rfl rfl (WL.nilCheck rfl rfl (WL.fieldR (off := 0) Tryz.underlying131 rfl rfl Tryz.sizeOf28 rfl rfl rfl ?_))))))))
  refine WL.loadR Tryz.isAgg28 rfl M Has.a rfl rfl (WL.call Tryz.call90 rfl (diskSync_ok k w0 w _ _ hk M Del.a) rfl ?_)
  rintro _ w ⟨rfl, k2, q1, q2, M⟩
  refine WL.call Tryz.call109 rfl (walFails_ok w0 w _ _ _ M Del.a) rfl ?_
  rintro _ w ⟨rfl, M⟩
  refine WL.assign rfl rfl (WL.nil (WX.next (W.sub [(0, _), (4, _)] (.cons rfl (.cons rfl .nil)) (W.seq (W.region (WL.move rfl rfl (WL.neI rfl rfl rfl (WL.nil (WX.next (W.sub [(0, _), (4, _), (18, _)] (.cons rfl (.cons rfl (.cons rfl .nil))) (W.ite rfl (fun c1 => ?_) (fun c1 => ?_))))))))))))
  ·have hs : k.d.sync.1 ≠ 0 := by omega
   refine W.seq (W.region (WL.move rfl rfl (WL.assign rfl rfl (WL.nil (WX.next (W.sub [(2, _)] (.cons rfl .nil) (W.ret (WX.thenRet (WX.ret1 rfl rfl ?_)))))))))
   have e1 : syncW ⟨e, l, n, false⟩ k.d = (k.d.sync.1, ⟨e, l, n, true⟩, k.d.sync.2) := by unfold syncW; rw [if_neg hno, if_pos hs]
   rw [e1]
   rw [decide_eq_true hs, Bool.or_true] at M
   refine ⟨rfl, ⟨g, k.g, h, ga, ca, Al, cl, xs, ⟨e, l, n, true⟩⟩, k2, rfl, rfl, rfl, rfl, ⟨⟨hlo, hhi, by unfold usedW; dsimp only; omega, hshort, hep, hn⟩, hxs⟩, q1, q2, by rw [q2]; exact Dk.sync_ok hk, by rw [q2]; exact Dk.sync_len _, by rw [q2]; exact Dk.sync_few _, ?_⟩
   unfold WaX.O usedW
   dsimp only
   rw [← hu]
   exact Mem.star4 (M.sel Sel.a)
  ·have hs : ¬ k.d.sync.1 ≠ 0 := by omega
   rw [decide_eq_false hs, Bool.or_false] at M
   refine W.skip (WX.next (W.seq (W.region (WL.move rfl rfl (WL.move rfl rfl (WL.nilCheck rfl rfl (WL.fieldR (off := 4) Tryz.underlying131 rfl rfl Tryz.sizeOf82 rfl rfl rfl ?_)))))))
   refine WL.loadR Tryz.isAgg82 rfl M Has.a rfl rfl (WL.len Tryz.underlying82 rfl rfl (WL.nilCheck rfl rfl (WL.fieldR (off := 5) Tryz.underlying131 rfl rfl Tryz.sizeOf3 rfl rfl rfl ?_)))
   refine WL.storeR Tryz.sizeOf3 rfl rfl rfl M Has.a (by repeat (first | exact SetAt.zero | apply SetAt.succ)) Upd.a ?_
   intro w M
   refine WL.nil (WX.next (W.sub [] .nil (W.seq (W.region (WL.assign rfl rfl (WL.nil (WX.next (W.sub [(2, _)] (.cons rfl .nil) (W.ret (WX.ret1 rfl rfl ?_))))))))))
   have e1 : syncW ⟨e, l, n, false⟩ k.d = (0, ⟨e, l, l.length, false⟩, k.d.sync.2) := by unfold syncW; rw [if_neg hno, if_neg hs]
   rw [e1]
   refine ⟨rfl, ⟨g, k.g, h, ga, ca, Al, cl, xs, ⟨e, l, l.length, false⟩⟩, k2, rfl, rfl, rfl, rfl, ⟨⟨hlo, hhi, by unfold usedW; dsimp only; omega, hshort, hep, Nat.le_refl _⟩, hxs⟩, q1, q2, by rw [q2]; exact Dk.sync_ok hk, by rw [q2]; exact Dk.sync_len _, by rw [q2]; exact Dk.sync_few _, ?_⟩
   unfold WaX.O usedW
   dsimp only
   rw [← hu, ← hxl]
   exact Mem.star4 (M.sel Sel.a)
set_option maxRecDepth 10000 in
theorem walRecords_ok (x : WaX) (k : DkX) (hx : x.ok) (hgd : x.gd = k.g) (hdd : x.s.dead = false) (hdn : k.d.down = false) (w0 w : World) (L L1 L2 : List Asr) (M : Mem w0 w L) (hd1 : Del x.O L L1) (hd2 : Del k.O L1 L2) :
 Fn Tryz.prog 24 [.pointer (some ⟨x.g, 0, none⟩)] w fun v w' => ∃ A c ys, v = .slice A (List.length ys) c ∧ ys.map OX.l = x.s.l ∧ Mem w0 w' (Asr.lst oxE A c ys :: Asr.star (ys.map OX.O) :: x.O :: k.O :: L2) := by
 have M1 := ((M.del hd1).perm (List.Perm.cons _ hd2.perm)).unstar4
 clear M
 have M := M1
 obtain ⟨⟨hlo, hhi, hfits, hshort, hep, hn⟩, hxs⟩ := hx
 obtain ⟨g, gd, h, ga, ca, Al, cl, xs, s⟩ := x
 dsimp only at *
 subst hgd
 obtain ⟨e, l, n, dead⟩ := s
 unfold usedW at hfits M
 dsimp only at *
 rw [hdd] at M
 have hfew := framesB_few l hshort
 have hxl : xs.length = l.length := by have := congrArg List.length hxs; simpa using this
 refine Fn.enter Tryz.func24 rfl Tryz.ntmps24 rfl (W.sub [(0, _)] (.cons rfl .nil) (W.seq (W.region (WL.assign rfl rfl (WL.nil (WX.next (W.sub [(0, _)] (.cons rfl .nil) (W.seq (W.seq (W.region (WL.move rfl rfl (WL.call Tryz.call53 rfl (walReady_ok w0 w _ _ k M Del.a Has.a) rfl ?_))))))))))))
 rintro _ w ⟨rfl, M⟩
 rw [hdn] at M ⊢
 refine WL.neI rfl rfl rfl (WL.nil (WX.next (W.sub [(0, _), (8, _)] (.cons rfl (.cons rfl .nil)) (W.ite rfl (fun c0 => ?_) (fun c0 => ?_)))))
 ·exact absurd c0 (by simp)
 ·refine W.skip (WX.next (W.seq (W.region (WL.assign rfl rfl (WL.nil (WX.next (W.sub [(0, _), (3, _)] (.cons rfl (.cons rfl .nil)) (W.seq (W.seq (W.region (WL.move rfl rfl (WL.nilCheck rfl rfl (WL.fieldR (off := 4) Tryz.underlying131 rfl rfl Tryz.sizeOf82 rfl rfl rfl ?_)))))))))))))
  refine WL.loadR Tryz.isAgg82 rfl M Has.a rfl rfl (WL.len Tryz.underlying82 rfl rfl (WL.move rfl rfl (WL.nil (WX.next (W.sub [(3, _), (12, _), (13, _), (14, _)] (.cons rfl (.cons rfl (.cons rfl (.cons rfl .nil)))) (W.block (W.loop (ι := Nat × Option Addr × Nat × List OX) (fun z => [(3, .slice z.2.1 z.2.2.2.length z.2.2.1), (12, .slice Al xs.length cl), (13, .int .i64 (xs.length : Int)), (14, .int .i64 (z.1 : Int))]) (fun zz w => Mem w0 w ((fun z => Asr.lst oxE z.2.1 z.2.2.1 z.2.2.2 :: Asr.star (z.2.2.2.map OX.O) :: waRow g k.g e h ga ca Al xs.length cl n (framesB l).length false :: Asr.own 5 1 (some ⟨ga, 0, none⟩) (areaB h l).length ca (bs (areaB h l)) :: Asr.lst oxE Al cl xs :: Asr.star (xs.map OX.O) :: k.O :: L2) zz) ∧ (fun z => z.1 ≤ xs.length ∧ z.2.2.2.map OX.l = (xs.map OX.l).take z.1) zz) (fun z => xs.length - z.1) ((0, none, 0, [])) envSub.sf ⟨((Mem.nilOwn (Mem.starNil M) 84 1).sel Sel.a), ⟨Nat.zero_le _, by simp⟩⟩ ?_)))))))
  clear M; rintro (⟨i, A, c, ys⟩) w ⟨M, ⟨hi, hy⟩⟩; dsimp only at M hi hy ⊢
  refine W.sub [(3, _), (12, _), (13, _), (14, _)] (.cons rfl (.cons rfl (.cons rfl (.cons rfl .nil)))) (W.seq (W.region (WL.lss rfl rfl rfl (WL.nil (WX.next (W.sub [(3, _), (12, _), (13, _), (14, _), (15, _)] (.cons rfl (.cons rfl (.cons rfl (.cons rfl (.cons rfl .nil))))) (W.seq (W.ite rfl (fun c1 => ?_) (fun c1 => ?_)))))))))
  ·have hil : i < xs.length := by omega
   have hyl : ys.length = i := by have := congrArg List.length hy; simp at this; omega
   have hbl : (el xs i).l.length ≤ 1024 := hshort _ (by rw [← hxs]; exact List.mem_map.2 ⟨_, el_mem hil, rfl⟩)
   refine W.skip (WX.next (W.seq (W.block (W.seq (W.region (WL.idxA Tryz.underlying82 Tryz.sizeOf84 rfl rfl (RdL.isSome (E := oxE) (by first | with_reducible assumption | with_reducible exact RdL.mem (by with_reducible assumption) M | exact M.rdL Has.a | exact RdLH.at (by assumption) (M.sel Sel.a) | exact RdL.nil _ _ _) (by omega)) (by omega) (by omega) (by first | exact rfl | exact (Int.toNat_of_nonneg (by omega)).symm) rfl ?_))))))
   refine WL.loadE0 (E := oxE) Tryz.isAgg84 rfl (by first | with_reducible assumption | with_reducible exact RdL.mem (by with_reducible assumption) M | exact M.rdL Has.a | exact RdLH.at (by assumption) (M.sel Sel.a) | exact RdL.nil _ _ _) (by omega) rfl rfl ?_
   refine WL.assign rfl rfl (WL.nil (WX.next (W.sub [(3, _), (5, _), (12, _), (13, _), (14, _)] (.cons rfl (.cons rfl (.cons rfl (.cons rfl (.cons rfl .nil))))) (W.region (WL.move rfl rfl (WL.buildB (es := []) Tryz.elem5 M rfl rfl (by exact BytesOf.nil) (by rfl) rfl rfl ?_))))))
   intro g7_1 w M
   refine WL.move rfl rfl ?_
   refine WL.appendBN Tryz.elem5 rfl rfl M Del.a (ownRd (M.starHas (f := OX.O) Has.a (el_mem hil))) rfl rfl (by first | omega | (simp; done) | (simp; omega)) rfl ?_
   intro A7_3 cap7_3 w M
   refine WL.buildL (E := oxE) (l := [(⟨A7_3, cap7_3, (el xs i).l⟩ : OX)]) Tryz.elem84 M rfl rfl rfl rfl rfl rfl ?_
   intro g7_4 w M
   refine WL.appendL (E := oxE) Tryz.elem84 rfl rfl M Del.a (by first | with_reducible assumption | with_reducible exact RdL.mem (by with_reducible assumption) M | exact M.rdL Has.a | exact RdLH.at (by assumption) (M.sel Sel.a) | exact RdL.nil _ _ _) rfl rfl (by first | omega | (simp; done) | (simp; omega)) (by first | (simp only [maxLen]; omega) | (simp [maxLen]; done) | (simp [maxLen]; omega)) rfl ?_
   intro A7_5 cap7_5 w M
   refine WL.assign rfl rfl (WL.nil (WX.blockNormal (WX.next (W.sub [(3, _), (12, _), (13, _), (14, _)] (.cons rfl (.cons rfl (.cons rfl (.cons rfl .nil)))) (W.region (WL.add rfl rfl (by first | exact wI64 (by omega) | rfl) rfl ?_))))))
   refine WL.move rfl rfl (WL.nil ?_)
   skip
   have q : (ys ++ [(⟨A7_3, cap7_3, (el xs i).l⟩ : OX)]).map OX.l = (xs.map OX.l).take (i + 1) := by
    rw [List.take_succ_eq_append_getElem (by simpa using hil), ← hy, List.map_append]
    congr 1
    rw [List.getElem_map]
    simp [el, hil]
   have M2 : Mem w0 w (Asr.star ((ys ++ [(⟨A7_3, cap7_3, (el xs i).l⟩ : OX)]).map OX.O) :: Asr.lst oxE A7_5 cap7_5 (ys ++ [(⟨A7_3, cap7_3, (el xs i).l⟩ : OX)]) :: waRow g k.g e h ga ca Al xs.length cl n (framesB l).length false :: Asr.own 5 1 (some ⟨ga, 0, none⟩) (areaB h l).length ca (bs (areaB h l)) :: Asr.lst oxE Al cl xs :: Asr.star (xs.map OX.O) :: k.O :: L2) := by
    rw [List.map_append]
    refine Mem.starSnoc ?_
    exact M.sel Sel.a
   replace M := M2
   refine WX.round ((i + 1, A7_5, cap7_5, ys ++ [(⟨A7_3, cap7_3, (el xs i).l⟩ : OX)])) envSub.sf ⟨M.sel Sel.a, ⟨by dsimp only; omega, q⟩⟩ (by first | omega | (dsimp only; omega))
  ·refine W.exit (WX.thenExit (WX.thenExit (WX.blockHere (WX.next (W.seq (W.region (WL.move rfl rfl (WL.assign rfl rfl (WL.nil (WX.next (W.sub [(2, _)] (.cons rfl .nil) (W.ret (WX.ret1 rfl rfl ?_)))))))))))))
   obtain rfl : i = xs.length := by omega
   rw [List.take_of_length_le (by simp), hxs] at hy
   refine ⟨A, c, ys, rfl, hy, ?_⟩
   have M2 := Mem.star4 (M.sel (K := waRow g k.g e h ga ca Al xs.length cl n (framesB l).length false :: Asr.own 5 1 (some ⟨ga, 0, none⟩) (areaB h l).length ca (bs (areaB h l)) :: Asr.lst oxE Al cl xs :: Asr.star (xs.map OX.O) :: Asr.lst oxE A c ys :: Asr.star (ys.map OX.O) :: k.O :: L2) Sel.a)
   unfold WaX.O usedW
   dsimp only
   rw [hdd]
   exact M2.sel Sel.a
end Go.Proofs.YtlminileigfkcaaGreat
namespace Go.Proofs.YtlminileigfkcaaGreat
open Go Go.RowKit Crc Bin
theorem wipeB_length {b : List UInt8} {e : Nat} (he : e ≤ b.length) : (wipeB b e).length = b.length := by unfold wipeB; rw [List.length_append, List.length_take, List.length_replicate]; omega
theorem wipeB_get {b : List UInt8} {e i : Nat} (he : e ≤ b.length) : (wipeB b e)[i]? = if i < e then b[i]? else if i < b.length then some 0 else none := by
 unfold wipeB
 split
 ·rename_i h
  rw [List.getElem?_append_left (by rw [List.length_take]; omega), List.getElem?_take, if_pos h]
 ·rename_i h
  rw [List.getElem?_append_right (by rw [List.length_take]; omega), List.getElem?_replicate, List.length_take]
  by_cases h2 : i < b.length
  ·rw [if_pos (by omega), if_pos h2]
  ·rw [if_neg (by omega), if_neg h2]
def curB (b : List UInt8) (e p : Nat) : List UInt8 := (wipeB b e).take p ++ b.drop p
section
variable {b : List UInt8} {e p : Nat}
theorem curB_length (he : e ≤ b.length) (hp : p ≤ b.length) : (curB b e p).length = b.length := by
 have := wipeB_length he
 unfold curB
 rw [List.length_append, List.length_take, List.length_drop]
 omega
theorem curB_get (he : e ≤ b.length) (hp : p ≤ b.length) (i : Nat) : (curB b e p)[i]? = if i < p then (wipeB b e)[i]? else b[i]? := by
 have hw := wipeB_length he
 unfold curB
 split
 ·rename_i h
  rw [List.getElem?_append_left (by rw [List.length_take]; omega), List.getElem?_take, if_pos h]
 ·rename_i h
  rw [List.getElem?_append_right (by rw [List.length_take]; omega), List.getElem?_drop, List.length_take]
  congr 1
  omega
theorem curB_low (he : e ≤ b.length) (hp : p ≤ e) : curB b e p = b := by
 apply List.ext_getElem?
 intro i
 rw [curB_get he (by omega)]
 split
 ·rw [wipeB_get he, if_pos (by omega)]
 ·rfl
theorem curB_top (he : e ≤ b.length) : curB b e b.length = wipeB b e := by
 apply List.ext_getElem?
 intro i
 rw [curB_get he (Nat.le_refl _)]
 split
 ·rfl
 ·rw [wipeB_get he, if_neg (by omega), if_neg (by omega), List.getElem?_eq_none (by omega)]
theorem curB_el (he : e ≤ b.length) (hp : p < b.length) : el (curB b e p) p = el b p := by
 unfold el
 rw [curB_get he (by omega), if_neg (by omega)]
theorem curB_keep (he : e ≤ b.length) (hp : p < b.length) (h : p < e ∨ el b p = 0) : curB b e (p + 1) = curB b e p := by
 apply List.ext_getElem?
 intro i
 rw [curB_get he (by omega), curB_get he (by omega)]
 by_cases h1 : i < p
 ·rw [if_pos h1, if_pos (by omega)]
 ·rw [if_neg h1]
  by_cases h2 : i = p
  ·subst h2
   rw [if_pos (by omega), wipeB_get he]
   split
   ·rfl
   ·rename_i h3
    rcases h with h | h
    ·exact absurd h h3
    ·first | rw [if_pos hp, el_get hp, h] | rw [el_get hp, h]
  ·rw [if_neg (by omega)]
theorem curB_set (he : e ≤ b.length) (hp : p < b.length) (h : e ≤ p) : curB b e (p + 1) = (curB b e p).set p 0 := by
 apply List.ext_getElem?
 intro i
 rw [curB_get he (by omega), List.getElem?_set, curB_length he (by omega)]
 by_cases h1 : p = i
 ·subst h1
  rw [if_pos (by omega), if_pos rfl, if_pos hp, wipeB_get he, if_neg (by omega), if_pos hp]
 ·rw [if_neg h1, curB_get he (by omega)]
  by_cases h2 : i < p
  ·rw [if_pos h2, if_pos (by omega)]
  ·rw [if_neg h2, if_neg (by omega)]
theorem curB_sec (he : e ≤ b.length) {i : Nat} (hi : 32 * i + 32 ≤ b.length) : secAt (curB b e (32 * i + 32)) i = secAt (wipeB b e) i := by
 have hw := wipeB_length he
 have hc := curB_length he hi
 refine Sec.ext ?_
 rw [secAt_eq (by omega), secAt_eq (by omega)]
 apply List.ext_getElem?
 intro j
 rw [List.getElem?_take, List.getElem?_take]
 split
 ·rw [List.getElem?_drop, List.getElem?_drop, curB_get he hi, if_pos (by omega)]
 ·rfl
end
def anyTo (b : List UInt8) (e i j : Nat) : Bool := (List.range j).any fun k => decide (e ≤ 32 * i + k ∧ el b (32 * i + k) ≠ 0)
theorem anyTo_succ (b : List UInt8) (e i j : Nat) : anyTo b e i (j + 1) = (anyTo b e i j || decide (e ≤ 32 * i + j ∧ el b (32 * i + j) ≠ 0)) := by
 unfold anyTo
 rw [List.range_succ, List.any_append]
 simp
theorem anyTo_dirty (b : List UInt8) (e i : Nat) : anyTo b e i 32 = dirtyB b e i := rfl
set_option maxHeartbeats 2000000 in
set_option maxRecDepth 10000 in
theorem wipe1_ok (k : DkX) (hok : k.d.ok) {g gb gw ga ca e h en i : Nat} {wr : Bool} {ro : List Value} (b : List UInt8) (hen : en ≤ b.length) (hb : b.length = 32 * h) (hh : h ≤ 1023) (hi : i < h) (he : e < 18446744073709551616) (hat : firstN h e + i < k.d.safe.length)
 (h0 : ro[0]? = some (.pointer (some ⟨k.g, 0, none⟩))) (h1 : ro[1]? = some (.int .u64 (e : Int))) (h2 : ro[2]? = some (.int .i64 (h : Int))) (h6 : ro[6]? = some (.int .i64 (en : Int)))
 (w0 w : World) (Lr : List Asr) (hbx : Has (Asr.row gb 76 [.pointer (some ⟨g, 0, none⟩)]) Lr) (hr : Has (Asr.row g 131 ro) Lr)
 (M : Mem w0 w (k.O :: Asr.row gw 4 [.bool wr] :: Asr.own 5 1 (some ⟨ga, 0, none⟩) (curB b en (32 * i)).length ca (bs (curB b en (32 * i))) :: Lr)) :
 Fn Tryz.prog 88 [.int .i64 (i : Int), .slice (some ⟨ga, i * 32, none⟩) 32 (ca - i * 32), .pointer (some ⟨gb, 0, none⟩), .pointer (some ⟨gw, 0, none⟩)] w fun v w' => v = .int .i64 ((wipeStep (firstN h e) b en i (k.d, wr)).1 : Int) ∧ ∃ k' : DkX, k'.g = k.g ∧ k'.d = (wipeStep (firstN h e) b en i (k.d, wr)).2.1 ∧
  Mem w0 w' (k'.O :: Asr.row gw 4 [.bool (wipeStep (firstN h e) b en i (k.d, wr)).2.2] :: Asr.own 5 1 (some ⟨ga, 0, none⟩) (curB b en (32 * (i + 1))).length ca (bs (curB b en (32 * (i + 1)))) :: Lr) := by
 have hln := hok.len
 refine Fn.enter Tryz.func88 rfl Tryz.ntmps88 rfl (W.sub [(0, _), (1, _), (2, _), (3, _)] (.cons rfl (.cons rfl (.cons rfl (.cons rfl .nil)))) (W.seq (W.region (WL.assign rfl rfl (WL.nil (WX.next (W.sub [(0, _), (1, _), (2, _), (3, _)] (.cons rfl (.cons rfl (.cons rfl (.cons rfl .nil)))) (W.seq (W.region (WL.assign rfl rfl (WL.nil (WX.next (W.sub [(0, _), (1, _), (2, _), (3, _), (7, _)] (.cons rfl (.cons rfl (.cons rfl (.cons rfl (.cons rfl .nil))))) (W.seq (W.seq (W.region (WL.move rfl rfl (WL.len Tryz.underlying84 rfl rfl (WL.move rfl rfl (WL.nil (WX.next (W.sub [(0, _), (1, _), (2, _), (3, _), (7, _), (10, _), (11, _)] (.cons rfl (.cons rfl (.cons rfl (.cons rfl (.cons rfl (.cons rfl (.cons rfl .nil))))))) (W.block (W.loop (ι := Nat) (fun j => [(0, .int .i64 (i : Int)), (1, .slice (some ⟨ga, i * 32, none⟩) 32 (ca - i * 32)), (2, .pointer (some ⟨gb, 0, none⟩)), (3, .pointer (some ⟨gw, 0, none⟩)), (7, .bool (anyTo b en i j)), (10, .int .i64 32), (11, .int .i64 (j : Int))]) (fun zz w => Mem w0 w ((fun j => k.O :: Asr.row gw 4 [.bool wr] :: Asr.own 5 1 (some ⟨ga, 0, none⟩) (curB b en (32 * i + j)).length ca (bs (curB b en (32 * i + j))) :: Lr) zz) ∧ (fun j => j ≤ 32) zz) (fun j => 32 - j) (0) envSub.sf ⟨M.sel Sel.a, Nat.zero_le _⟩ ?_))))))))))))))))))))))))
 clear M; rintro (j) w ⟨M, hj⟩; dsimp only at M hj ⊢
 refine W.sub [(0, _), (1, _), (2, _), (3, _), (7, _), (10, _), (11, _)] (.cons rfl (.cons rfl (.cons rfl (.cons rfl (.cons rfl (.cons rfl (.cons rfl .nil))))))) (W.seq (W.region (WL.lss rfl rfl rfl (WL.nil (WX.next (W.sub [(0, _), (1, _), (2, _), (3, _), (7, _), (10, _), (11, _), (12, _)] (.cons rfl (.cons rfl (.cons rfl (.cons rfl (.cons rfl (.cons rfl (.cons rfl (.cons rfl .nil)))))))) (W.seq (W.ite rfl (fun c0 => ?_) (fun c0 => ?_)))))))))
 ·have hj32 : j < 32 := by omega
  have hp : 32 * i + j < b.length := by omega
  have hcl := curB_length hen (Nat.le_of_lt hp)
  have hca : atA (some ⟨ga, i * 32, none⟩) (j * 1) = atA (some ⟨ga, 0, none⟩) ((32 * i + j) * 1) := by rw [atA_lit, atA_lit]; congr 1; omega
  refine W.skip (WX.next (W.seq (W.block (W.seq (W.region (WL.move rfl rfl (WL.assign rfl rfl (WL.nil (WX.next (W.sub [(0, _), (1, _), (2, _), (3, _), (7, _), (8, _), (10, _), (11, _)] (.cons rfl (.cons rfl (.cons rfl (.cons rfl (.cons rfl (.cons rfl (.cons rfl (.cons rfl .nil)))))))) (W.seq (W.region (WL.move rfl rfl (WL.mul rfl rfl (by first | exact wI64 (by omega) | rfl) rfl ?_))))))))))))))
  refine WL.move rfl rfl (WL.add rfl rfl (by first | exact wI64 (by omega) | rfl) rfl ?_)
  refine WL.load Tryz.isAgg76 rfl (M.cellH (.there (.there (.there hbx))) 0) rfl (WL.nilCheck rfl rfl (WL.fieldR (off := 6) Tryz.underlying131 rfl rfl Tryz.sizeOf3 rfl rfl rfl ?_))
  refine WL.load Tryz.isAgg3 rfl ((M.cellH (.there (.there (.there hr))) 6).trans h6) rfl (WL.geq rfl rfl rfl (WL.moveIf rfl rfl (fun c1 => ?_) (fun c1 => ?_)))
  ·refine WL.on rfl rfl (WL.move rfl rfl (WL.on rfl rfl (WL.move rfl rfl (WL.on rfl rfl (WL.idxA Tryz.underlying84 Tryz.sizeOf5 rfl rfl rfl (by omega) (by omega) (by first | exact rfl | exact (Int.toNat_of_nonneg (by omega)).symm) rfl ?_)))))
   (try rw [hca, Nat.mul_one])
   refine WL.on rfl rfl ?_
   refine WL.load Tryz.isAgg5 rfl ((M.rdB (A := some ⟨ga, 0, none⟩) (l := curB b en (32 * i + j)) (cap := ca) (.there (.there .here))).cellAt' (by rw [hcl]; exact hp)) rfl ?_
   refine WL.on rfl rfl (WL.neI rfl rfl rfl (WL.pickT rfl rfl rfl (WL.nil (WX.next (W.sub [(0, _), (1, _), (2, _), (3, _), (7, _), (8, _), (10, _), (11, _), (29, _)] (.cons rfl (.cons rfl (.cons rfl (.cons rfl (.cons rfl (.cons rfl (.cons rfl (.cons rfl (.cons rfl .nil))))))))) (W.ite rfl (fun c2 => ?_) (fun c2 => ?_)))))))
   ·refine W.region (WL.move rfl rfl (WL.move rfl rfl (WL.idxA Tryz.underlying84 Tryz.sizeOf5 rfl rfl rfl (by omega) (by omega) (by first | exact rfl | exact (Int.toNat_of_nonneg (by omega)).symm) rfl ?_)))
    rw [hca]
    refine WL.storeB Tryz.sizeOf5 rfl rfl M Has.a (by omega) (by omega) (by omega) Upd.a ?_
    intro w M
    refine WL.assign rfl rfl (WL.nil (WX.blockNormal (WX.next (W.sub [(0, _), (1, _), (2, _), (3, _), (7, _), (10, _), (11, _)] (.cons rfl (.cons rfl (.cons rfl (.cons rfl (.cons rfl (.cons rfl (.cons rfl .nil))))))) (W.region (WL.add rfl rfl (by first | exact wI64 (by omega) | rfl) rfl ?_))))))
    refine WL.move rfl rfl (WL.nil ?_)
    skip
    have hne : el b (32 * i + j) ≠ 0 := by
     rw [curB_el hen hp] at c2
     intro h
     rw [h] at c2
     exact c2 rfl
    have q1 : curB b en (32 * i + (j + 1)) = (curB b en (32 * i + j)).set (32 * i + j) 0 := curB_set (p := 32 * i + j) hen hp (by omega)
    have q2 : anyTo b en i (j + 1) = true := by rw [anyTo_succ, decide_eq_true ⟨by omega, hne⟩, Bool.or_true]
    have q3 : u8 0 = 0 := rfl
    rw [q3, ← q1] at M
    rw [← q2]
    refine WX.round (j + 1) envSub.sf ⟨M.sel Sel.a, (by omega)⟩ (by first | omega | (dsimp only; omega))
   ·refine W.skip (WX.blockNormal (WX.next (W.region (WL.add rfl rfl (by first | exact wI64 (by omega) | rfl) rfl ?_))))
    refine WL.move rfl rfl (WL.nil ?_)
    skip
    have hz : el b (32 * i + j) = 0 := by
     rw [curB_el hen hp] at c2
     have : (el b (32 * i + j)).toNat = 0 := by omega
     exact UInt8.toNat_inj.1 this
    have q1 : curB b en (32 * i + (j + 1)) = curB b en (32 * i + j) := curB_keep (p := 32 * i + j) hen hp (.inr hz)
    have q2 : anyTo b en i (j + 1) = anyTo b en i j := by rw [anyTo_succ, decide_eq_false (fun h => h.2 hz), Bool.or_false]
    rw [← q1] at M
    rw [← q2]
    refine WX.round (j + 1) envSub.sf ⟨M.sel Sel.a, (by omega)⟩ (by first | omega | (dsimp only; omega))
  ·refine WL.off rfl rfl rfl rfl (WL.off rfl rfl rfl rfl (WL.off rfl rfl rfl rfl ?_))
   (try rw [hca, Nat.mul_one])
   refine WL.off rfl rfl rfl rfl (WL.off rfl rfl rfl rfl (WL.pickF rfl rfl rfl (WL.nil (WX.next (W.sub [(0, _), (1, _), (2, _), (3, _), (7, _), (8, _), (10, _), (11, _), (29, _)] (.cons rfl (.cons rfl (.cons rfl (.cons rfl (.cons rfl (.cons rfl (.cons rfl (.cons rfl (.cons rfl .nil))))))))) (W.condF rfl (W.skip (WX.blockNormal (WX.next (W.region (WL.add rfl rfl (by first | exact wI64 (by omega) | rfl) rfl ?_)))))))))))
   refine WL.move rfl rfl (WL.nil ?_)
   skip
   have q1 : curB b en (32 * i + (j + 1)) = curB b en (32 * i + j) := curB_keep (p := 32 * i + j) hen hp (.inl (by omega))
   have q2 : anyTo b en i (j + 1) = anyTo b en i j := by rw [anyTo_succ, decide_eq_false (fun h => by omega), Bool.or_false]
   rw [← q1] at M
   rw [← q2]
   refine WX.round (j + 1) envSub.sf ⟨M.sel Sel.a, (by omega)⟩ (by first | omega | (dsimp only; omega))
 ·obtain rfl : j = 32 := by omega
  rw [anyTo_dirty, show 32 * i + 32 = 32 * (i + 1) by omega] at *
  refine W.exit (WX.thenExit (WX.thenExit (WX.blockHere (WX.next (W.seq (W.seq (W.region (WL.move rfl rfl (WL.not rfl rfl (WL.nil (WX.next (W.sub [(0, _), (1, _), (2, _), (3, _), (35, _)] (.cons rfl (.cons rfl (.cons rfl (.cons rfl (.cons rfl .nil))))) (W.cond rfl (fun c3 => ?_) (fun c3 => ?_))))))))))))))
  ·(try simp only [Bool.not_eq_true'] at c3); (try simp only [Bool.not_eq_false'] at c3); (try simp only [decide_eq_true_eq] at c3); (try simp only [decide_eq_false_iff_not] at c3)
   refine W.seq (W.region (WL.assign rfl rfl (WL.nil (WX.next (W.sub [(6, _)] (.cons rfl .nil) (W.ret (WX.thenRet (WX.ret1 rfl rfl ?_))))))))
   have hnd : dirtyB b en i = false := by simpa using c3
   have e1 : wipeStep (firstN h e) b en i (k.d, wr) = (0, (k.d, wr)) := by unfold wipeStep; rw [if_neg (by rw [hnd]; simp)]
   rw [e1]
   exact ⟨rfl, k, rfl, rfl, M.sel Sel.a⟩
  ·(try simp only [Bool.not_eq_true'] at c3); (try simp only [Bool.not_eq_false'] at c3); (try simp only [decide_eq_true_eq] at c3); (try simp only [decide_eq_false_iff_not] at c3)
   have hdt : dirtyB b en i = true := by simpa using c3
   have e1 : wipeStep (firstN h e) b en i (k.d, wr) = ((k.d.write (firstN h e + i) (secAt (wipeB b en) i)).1, ((k.d.write (firstN h e + i) (secAt (wipeB b en) i)).2, true)) := by unfold wipeStep; rw [if_pos hdt]
   have hsec : secAt (curB b en (32 * (i + 1))) i = secAt (wipeB b en) i := curB_sec hen (by omega)
   have hcl2 := curB_length hen (p := 32 * (i + 1)) (by omega)
   refine W.skip (WX.next (W.seq (W.region (WL.storeR Tryz.sizeOf4 rfl rfl rfl M Has.a (by repeat (first | exact SetAt.zero | apply SetAt.succ)) Upd.a ?_))))
   intro w M
   refine WL.nil (WX.next (W.sub [(0, _), (1, _), (2, _)] (.cons rfl (.cons rfl (.cons rfl .nil))) (W.seq (W.drawM (Lr) (by kernel_rfl) (fun j => [0, 1, 2, 3, 4, 5, 6, 7, 8, 9, 11].contains j) M Sel.a ?_))))
   clear M; intro M
   apply DG.pure_ [10, 12] 13 rfl (by kernel_rfl) (by kernel_rfl)
   ·intro w
    refine WL.move rfl rfl (WL.move rfl rfl ?_)
    exact Chain.end_ rfl
   apply DG.take [0, 1, 2, 3, 4, 5, 6, 7, 8] 4 rfl (by kernel_rfl) (by kernel_rfl) (M.sel Sel.a)
   ·intro w M
    refine WL.load Tryz.isAgg76 rfl (M.cellH hbx 0) rfl (WL.nilCheck rfl rfl (WL.fieldR (off := 0) Tryz.underlying131 rfl rfl Tryz.sizeOf28 rfl rfl rfl ?_))
    refine WL.load Tryz.isAgg28 rfl ((M.cellH hr 0).trans h0) rfl (WL.load Tryz.isAgg76 rfl (M.cellH hbx 0) rfl (WL.load Tryz.isAgg76 rfl (M.cellH hbx 0) rfl (WL.nilCheck rfl rfl (WL.fieldR (off := 1) Tryz.underlying131 rfl rfl Tryz.sizeOf47 rfl rfl rfl ?_))))
    refine WL.load Tryz.isAgg47 rfl ((M.cellH hr 1).trans h1) rfl ?_
    exact Chain.end_ rfl
   refine DG.step 9 3 rfl (by kernel_rfl) ?_
   refine WL.call Tryz.call50 rfl (walFirst_ok _ _ _ M (.there (.there (.there hr))) h2 (by omega) e he) rfl ?_
   rintro _ _ ⟨rfl, rfl⟩
   refine DG.go (G := fun j => [0, 1, 2, 3, 4, 5, 6, 7, 8, 9, 11].contains j) (i := 9) (f' := 3) (done := [10, 12, 0, 1, 2, 3, 4, 5, 6, 7, 8]) (fun _ => M.sel Sel.a) ?_
   apply DG.take [11] 2 rfl (by kernel_rfl) (by kernel_rfl) (M.sel Sel.a)
   ·intro w M
    refine WL.add rfl rfl (by first | exact wI64 (by omega) | rfl) rfl ?_
    exact Chain.end_ rfl
   refine DG.step 13 1 rfl (by kernel_rfl) ?_
   rw [show (firstN h e : Int) + (i : Int) = ((firstN h e + i : Nat) : Int) by push_cast; rfl]
   refine WL.call Tryz.call89 rfl (diskWrite_ok k hok (firstN h e + i) hat (secAt (curB b en (32 * (i + 1))) i) (some ⟨ga, i * 32, none⟩) (ca - i * 32) w0 _ _ _ (M.sel (K := k.O :: Asr.row gw 4 [.bool true] :: Asr.own 5 1 (some ⟨ga, 0, none⟩) (curB b en (32 * (i + 1))).length ca (bs (curB b en (32 * (i + 1)))) :: Lr) Sel.a) .here (by intro w M; exact secAt_rd (M.rdB (.there .here)) (by omega))) rfl ?_
   rintro _ w ⟨rfl, k', hg, hkd, M⟩
   refine DG.go (G := fun j => [0, 1, 2, 3, 4, 5, 6, 7, 8, 9, 11].contains j) (i := 13) (f' := 1) (done := [10, 12, 0, 1, 2, 3, 4, 5, 6, 7, 8, 9, 11]) (fun h => by cases h) ?_
   apply DG.pure_ [14] 0 rfl (by kernel_rfl) (by kernel_rfl)
   ·intro w
    refine WL.assign rfl rfl ?_
    exact Chain.end_ rfl
   refine DG.end_ (by kernel_rfl) ?_
   refine WX.next (W.sub [(6, _)] (.cons rfl .nil) (W.ret (WX.ret1 rfl rfl ?_)))
   rw [hsec] at hkd ⊢
   rw [e1]
   exact ⟨rfl, k', hg, hkd, M.sel Sel.a⟩
end Go.Proofs.YtlminileigfkcaaGreat
namespace Go.Proofs.YtlminileigfkcaaGreat
open Go Go.RowKit Crc Bin
/-- The power stays. -/
def Dk.up (d : Dk) : Prop := d.armed = false ∧ d.down = false
theorem Dk.act_up {d : Dk} (h : d.up) : d.act = (true, d) := by
 obtain ⟨safe, waits, armed, left, down⟩ := d
 obtain ⟨h1, h2⟩ := h
 dsimp only at h1 h2
 subst h1 h2
 rfl
theorem Dk.write_up {d : Dk} (h : d.up) (a : Nat) (s : Sec) : d.write a s = (0, { d with waits := d.waits ++ [(a, s)] }) := by
 unfold Dk.write
 rw [d.act_up h]
 rfl
theorem Dk.sync_up {d : Dk} (h : d.up) : d.sync = (0, { d with safe := d.now, waits := [] }) := by
 unfold Dk.sync
 rw [d.act_up h]
 rfl
theorem wipeStep_up {base : Nat} {b : List UInt8} {e i : Nat} {z : Dk × Bool} (h : z.1.up) : (wipeStep base b e i z).1 = 0 ∧ (wipeStep base b e i z).2.1.up := by
 unfold wipeStep
 split
 ·rw [Dk.write_up h]
  exact ⟨rfl, h⟩
 ·exact ⟨rfl, h⟩
theorem wipeAll_up {base : Nat} {b : List UInt8} {e : Nat} : ∀ (K i : Nat) (z : Dk × Bool), z.1.up → (eachN (wipeStep base b e) K i z).1 = 0 ∧ (eachN (wipeStep base b e) K i z).2.1.up
 | 0, _, _, h => ⟨rfl, h⟩
 | K + 1, i, z, h => by
   obtain ⟨h1, h2⟩ := wipeStep_up (base := base) (b := b) (e := e) (i := i) h
   rw [eachN, if_neg (by omega)]
   exact wipeAll_up K (i + 1) _ h2
theorem wipeD_up {h base e : Nat} {b : List UInt8} {d : Dk} (hu : d.up) : (wipeD h base b e d).1 = 0 ∧ (wipeD h base b e d).2.up := by
 obtain ⟨h1, h2⟩ := wipeAll_up (base := base) (b := b) (e := e) h 0 (d, false) hu
 unfold wipeD
 rw [if_neg (by omega)]
 split
 ·rw [Dk.sync_up h2]
  exact ⟨rfl, h2⟩
 ·exact ⟨rfl, h2⟩
set_option maxHeartbeats 2000000 in
set_option maxRecDepth 10000 in
theorem walWipe_ok (k : DkX) (hok : k.d.ok) (hup : k.d.up) {g ga ca e h en m cl n : Nat} {Al : Option Addr} (b : List UInt8) (hen : en ≤ b.length) (hb : b.length = 32 * h) (hh : h ≤ 1023) (he : e < 4611686018427387904) (hsz : 2 + 2 * h ≤ k.d.safe.length) (hwa : k.d.waits.length ≤ 90000) (hca : 32 * h ≤ ca)
 (w0 w : World) (Lr : List Asr) (M : Mem w0 w (k.O :: waRow g k.g e h ga ca Al m cl n en false :: Asr.own 5 1 (some ⟨ga, 0, none⟩) b.length ca (bs b) :: Lr)) :
 Fn Tryz.prog 52 [.pointer (some ⟨g, 0, none⟩)] w fun v w' => v = .int .i64 0 ∧ ∃ k' : DkX, k'.g = k.g ∧ k'.d = (wipeD h (firstN h e) b en k.d).2 ∧ k'.d.ok ∧ k'.d.safe.length = k.d.safe.length ∧ k'.d.waits.length ≤ k.d.waits.length + 1100 ∧
  Mem w0 w' (k'.O :: waRow g k.g e h ga ca Al m cl n en false :: Asr.own 5 1 (some ⟨ga, 0, none⟩) (wipeB b en).length ca (bs (wipeB b en)) :: Lr) := by
 have hln := hok.len
 have he1 : firstN h e + h ≤ k.d.safe.length := by
  have : e % 2 * h ≤ 1 * h := Nat.mul_le_mul_right _ (by omega)
  unfold firstN
  omega
 obtain ⟨hz1, hz2⟩ := wipeAll_up (base := firstN h e) (b := b) (e := en) h 0 (k.d, false) hup
 have hskip := wipe_skip (base := firstN h e) (e := en) (h := h) (b := b) (z := (k.d, false)) (by omega)
 obtain ⟨z, hz⟩ : ∃ z, z = eachN (wipeStep (firstN h e) b en) h 0 (k.d, false) := ⟨_, rfl⟩
 rw [← hz] at hz1 hz2 hskip
 refine Fn.enter Tryz.func52 rfl Tryz.ntmps52 rfl (W.sub [(0, _)] (.cons rfl .nil) (W.seq (W.region (WL.box rfl M rfl ?_))))
 intro g0_0 w M
 try simp only [Value.cells] at M
 try simp only [List.toList_toArray] at M
 refine WL.assign rfl rfl (WL.nil (WX.next (W.sub [(1, _)] (.cons rfl .nil) (W.seq (W.region (WL.alloc Tryz.zeroValue4 M rfl ?_))))))
 intro g1_0 w M
 try simp only [Value.cells] at M
 try simp only [List.toList_toArray] at M
 refine WL.storeR Tryz.sizeOf4 rfl rfl rfl M Has.a (by repeat (first | exact SetAt.zero | apply SetAt.succ)) Upd.a ?_
 intro w M
 refine WL.nil (WX.next (W.sub [(1, _), (3, _)] (.cons rfl (.cons rfl .nil)) (W.seq (W.drawM ([Asr.row g0_0 76 [.pointer (some ⟨g, 0, none⟩)], waRow g k.g e h ga ca Al m cl n en false]) (by kernel_rfl) (fun j => [0, 1, 2, 3, 4, 5, 6, 7, 8, 9, 10].contains j) M Sel.a ?_))))
 clear M; intro M
 apply DG.take [0, 1, 2, 3, 4, 5, 6, 7, 8, 9] 3 rfl (by kernel_rfl) (by kernel_rfl) (M.sel Sel.a)
 ·intro w M
  refine WL.loadR Tryz.isAgg76 rfl M Has.a rfl rfl (WL.loadR Tryz.isAgg76 rfl M Has.a rfl rfl (WL.nilCheck rfl rfl (WL.fieldR (off := 6) Tryz.underlying131 rfl rfl Tryz.sizeOf3 rfl rfl rfl ?_)))
  refine WL.loadR Tryz.isAgg3 rfl M Has.a rfl rfl (WL.loadR Tryz.isAgg76 rfl M Has.a rfl rfl (WL.nilCheck rfl rfl (WL.fieldR (off := 3) Tryz.underlying131 rfl rfl Tryz.sizeOf84 rfl rfl rfl ?_)))
  refine WL.loadR Tryz.isAgg84 rfl M Has.a rfl rfl (WL.len Tryz.underlying84 rfl rfl ?_)
  exact Chain.end_ rfl
 refine DG.step 10 2 rfl (by kernel_rfl) ?_
 refine WL.mkFn rfl rfl (DG.go (G := fun j => [0, 1, 2, 3, 4, 5, 6, 7, 8, 9, 10].contains j) (i := 10) (f' := 2) (done := [0, 1, 2, 3, 4, 5, 6, 7, 8, 9]) (fun _ => M.sel Sel.a) ?_)
 refine DG.step 11 1 rfl (by kernel_rfl) ?_
 obtain ⟨L9, hL9⟩ : ∃ L9, L9 = Asr.row g0_0 76 [.pointer (some ⟨g, 0, none⟩)] :: waRow g k.g e h ga ca Al m cl n en false :: Lr := ⟨_, rfl⟩
 have hM : Mem w0 w.drew (k.O :: Asr.row g1_0 4 [.bool false] :: Asr.own 5 1 (some ⟨ga, 0, none⟩) (curB b en (32 * (en / 32))).length ca (bs (curB b en (32 * (en / 32)))) :: L9) := by rw [curB_low hen (by omega), hL9]; exact M.sel Sel.a
 refine WL.call Tryz.call87 rfl (walEach_ok (σ := Dk × Bool) (from_ := en) (to := 32 * h) (K := h - en / 32) (ga := ga) (h := h) (ca := ca) _ #[.pointer (some ⟨g0_0, 0, none⟩), .pointer (some ⟨g1_0, 0, none⟩)] (wipeStep (firstN h e) b en) (fun i z w => ∃ k' : DkX, k'.g = k.g ∧ k'.d = z.1 ∧ z.1.ok ∧ z.1.safe.length = k.d.safe.length ∧ z.1.waits.length ≤ k.d.waits.length + i ∧ Mem w0 w (k'.O :: Asr.row g1_0 4 [.bool z.2] :: Asr.own 5 1 (some ⟨ga, 0, none⟩) (curB b en (32 * i)).length ca (bs (curB b en (32 * i))) :: L9)) wipe1_call (by omega) (by omega) (by omega) hca (fun i z w ⟨k', _, _, _, _, _, M⟩ => by rw [hL9] at M; exact M.cellH (g := g) (t := 131) Has.a 3) (fun i z w hi1 hi2 ⟨k', hk1, hk2, hk3, hk4, hk5, M⟩ => by
  obtain ⟨d, wr⟩ := z
  dsimp only at *
  subst hk2
  have hq : k'.g = k.g := hk1
  refine (wipe1_ok k' hk3 (g := g) (gb := g0_0) (gw := g1_0) (ga := ga) (ca := ca) (e := e) (h := h) (en := en) (i := i) (wr := wr) (ro := [.pointer (some ⟨k.g, 0, none⟩), .int .u64 (e : Int), .int .i64 (h : Int), .slice (some ⟨ga, 0, none⟩) (32 * h) ca, .slice Al m cl, .int .i64 (n : Int), .int .i64 (en : Int), .bool false]) b hen hb hh hi2 (by omega) (by omega) (by rw [hq]; rfl) rfl rfl rfl w0 w L9 (by rw [hL9]; exact Has.a) (by rw [hL9]; exact Has.a) M).mono ?_
  rintro _ w' ⟨rfl, k2, q1, q2, M2⟩
  refine ⟨rfl, k2, q1.trans hk1, q2, ?_, ?_, ?_, M2⟩
  ·unfold wipeStep
   split
   ·exact Dk.write_ok hk3 _ (by omega) (by omega)
   ·exact hk3
  ·unfold wipeStep
   split
   ·dsimp only; rw [Dk.write_len]; exact hk4
   ·exact hk4
  ·unfold wipeStep
   split
   ·have := Dk.write_few k'.d (firstN h e + i) (secAt (wipeB b en) i)
    dsimp only
    omega
   ·dsimp only
    omega) (k.d, false) _ ⟨k, rfl, rfl, hok, rfl, (by dsimp only; omega), hM⟩) rfl ?_
 rintro _ w ⟨rfl, i9, ⟨hi9, hi10⟩, k2, q1, q2, q3, q4, q5, M⟩
 rw [← hskip] at hi10 q2 q3 q4 q5 M ⊢
 have hih : i9 = h := by have := hi10 hz1; omega
 rw [hih, show 32 * h = b.length by omega, curB_top hen, hL9] at M
 rw [hz1]
 have hwl := wipeB_length hen
 refine DG.go (G := fun j => [0, 1, 2, 3, 4, 5, 6, 7, 8, 9, 10].contains j) (i := 11) (f' := 1) (done := [0, 1, 2, 3, 4, 5, 6, 7, 8, 9, 10]) (fun h => by cases h) ?_
 apply DG.pure_ [12] 0 rfl (by kernel_rfl) (by kernel_rfl)
 ·intro w
  refine WL.assign rfl rfl ?_
  exact Chain.end_ rfl
 refine DG.end_ (by kernel_rfl) ?_
 refine WX.next (W.sub [(1, _), (3, _), (4, _)] (.cons rfl (.cons rfl (.cons rfl .nil))) (W.seq (W.seq (W.region (WL.move rfl rfl (WL.eqI rfl rfl rfl (WL.moveIf rfl rfl (fun c0 => ?_) (fun c0 => ?_))))))))
 ·refine WL.on rfl rfl (WL.loadR Tryz.isAgg4 rfl M Has.a rfl rfl (WL.pickT rfl rfl rfl (WL.nil (WX.next (W.sub [(1, _), (4, _), (21, _)] (.cons rfl (.cons rfl (.cons rfl .nil))) (W.cond rfl (fun c1 => ?_) (fun c1 => ?_)))))))
  ·(try simp only [Bool.not_eq_true'] at c1); (try simp only [Bool.not_eq_false'] at c1); (try simp only [decide_eq_true_eq] at c1); (try simp only [decide_eq_false_iff_not] at c1)
   have hwr : z.2.2 = true := c1
   refine W.region (WL.loadR Tryz.isAgg76 rfl M Has.a rfl rfl (WL.nilCheck rfl rfl (WL.fieldR (off := 0) Tryz.underlying131 rfl rfl Tryz.sizeOf28 rfl rfl rfl ?_)))
   refine WL.loadR (v := .pointer (some ⟨k2.g, 0, none⟩)) Tryz.isAgg28 rfl M Has.a (by rw [q1]; rfl) rfl ?_
   refine WL.call Tryz.call90 rfl (diskSync_ok k2 w0 w _ _ (by rw [q2]; exact q3) M Del.a) rfl ?_
   rintro _ w ⟨rfl, k3, p1, p2, M⟩
   refine WL.assign rfl rfl (WL.nil (WX.next (W.sub [(4, _)] (.cons rfl .nil) (W.seq (W.region (WL.move rfl rfl (WL.assign rfl rfl (WL.nil (WX.next (W.sub [(2, _)] (.cons rfl .nil) (W.ret (WX.ret1 rfl rfl ?_))))))))))))
   have e1 : wipeD h (firstN h e) b en k.d = k2.d.sync := by
    unfold wipeD
    rw [← hz, if_neg (by omega), if_pos hwr, q2]
   have e2 : k2.d.sync.1 = 0 := by rw [q2, Dk.sync_up hz2]
   rw [e2, e1]
   refine ⟨rfl, k3, p1.trans q1, p2, by rw [p2]; exact Dk.sync_ok (by rw [q2]; exact q3), by rw [p2, Dk.sync_len, q2]; exact q4, by rw [p2]; have := Dk.sync_few k2.d; rw [q2] at this ⊢; omega, M.sel Sel.a⟩
  ·(try simp only [Bool.not_eq_true'] at c1); (try simp only [Bool.not_eq_false'] at c1); (try simp only [decide_eq_true_eq] at c1); (try simp only [decide_eq_false_iff_not] at c1)
   refine W.skip (WX.next (W.seq (W.region (WL.move rfl rfl (WL.assign rfl rfl (WL.nil (WX.next (W.sub [(2, _)] (.cons rfl .nil) (W.ret (WX.ret1 rfl rfl ?_))))))))))
   have hwr : ¬ z.2.2 = true := by simpa using c1
   have e1 : wipeD h (firstN h e) b en k.d = (0, k2.d) := by
    unfold wipeD
    rw [← hz, if_neg (by omega), if_neg hwr, q2]
   rw [e1]
   refine ⟨rfl, k2, q1, rfl, by rw [q2]; exact q3, by rw [q2]; exact q4, by rw [q2]; omega, M.sel Sel.a⟩
 ·exact absurd rfl c0
end Go.Proofs.YtlminileigfkcaaGreat
namespace Go.Proofs.YtlminileigfkcaaGreat
open Go Go.RowKit Crc Bin
/-- What has been read of an area. -/
def readB (now : List Sec) (base h i : Nat) : List UInt8 := secsB now base i ++ List.replicate (32 * h - 32 * i) 0
theorem readB_length {now : List Sec} {base h i : Nat} (hi : i ≤ h) : (readB now base h i).length = 32 * h := by unfold readB; rw [List.length_append, secsB_length, List.length_replicate]; omega
theorem readB_step {now : List Sec} {base h i : Nat} (hi : i < h) : (readB now base h i).take (i * 32) ++ (el now (base + i)).l ++ (readB now base h i).drop (i * 32 + (el now (base + i)).l.length) = readB now base h (i + 1) := by
 have h1 := secsB_length now base i
 have h2 := (el now (base + i)).h
 unfold readB
 rw [secsB_succ, h2, List.take_append_of_le_length (by omega), List.take_of_length_le (by omega), List.drop_append, List.drop_eq_nil_of_le (by omega), List.nil_append, List.drop_replicate]
 congr 2
 omega
theorem areaB_open {h : Nat} {b : List UInt8} (hb : b.length = 32 * h) : wipeB b (scanB b (b.length + 1) 0).2 = areaB h (scanB b (b.length + 1) 0).1 := by
 obtain ⟨h1, h2, h3, _⟩ := scanB_is b (b.length + 1) 0 (Nat.zero_le _)
 have h4 : framesB (scanB b (b.length + 1) 0).1 = b.take (scanB b (b.length + 1) 0).2 := by rw [h3]; simp
 have h5 : (framesB (scanB b (b.length + 1) 0).1).length = (scanB b (b.length + 1) 0).2 := by rw [h4, List.length_take]; omega
 unfold wipeB areaB
 rw [h5, h4, hb]
set_option maxHeartbeats 4000000 in
set_option maxRecDepth 10000 in
theorem walOpen_ok (k : DkX) (hok : k.d.ok) (hup : k.d.up) (h6 : 6 ≤ k.d.safe.length) (hwa : k.d.waits.length ≤ 90000) (w0 w : World) (L L' : List Asr) (M : Mem w0 w L) (hd : Del k.O L L') :
 Fn Tryz.prog 23 [.pointer (some ⟨k.g, 0, none⟩)] w fun v w' => ∃ (x : WaX) (k' : DkX), v = .tuple #[.pointer (some ⟨x.g, 0, none⟩), .int .i64 0] ∧ x.gd = k.g ∧ x.h = halfD k.d ∧ x.s = (openW k.d).2.1 ∧ x.ok ∧ k'.g = k.g ∧ k'.d = (openW k.d).2.2 ∧ k'.d.ok ∧ k'.d.safe.length = k.d.safe.length ∧ k'.d.waits.length ≤ k.d.waits.length + 1100 ∧
  Mem w0 w' (x.O :: k'.O :: L') := by
 have M1 := M.del hd
 clear M
 have M := M1
 have hln := hok.len
 have hdn := hup.2
 obtain ⟨h, hh⟩ : ∃ h, h = halfD k.d := ⟨_, rfl⟩
 have hh2 : 2 ≤ h ∧ h ≤ 1023 ∧ 2 + 2 * h ≤ k.d.safe.length := by rw [hh]; unfold halfD; omega
 obtain ⟨e, he⟩ : ∃ e, e = epochD k.d := ⟨_, rfl⟩
 have hel : e < 4611686018427387904 := by rw [he]; exact epochD_lt _
 obtain ⟨base, hba⟩ : ∃ base, base = firstN h e := ⟨_, rfl⟩
 have hbl : base + h ≤ k.d.safe.length := by
  have : e % 2 * h ≤ 1 * h := Nat.mul_le_mul_right _ (by omega)
  rw [hba]
  unfold firstN
  omega
 refine Fn.enter Tryz.func23 rfl Tryz.ntmps23 rfl (W.sub [(0, _)] (.cons rfl .nil) (W.seq (W.region (WL.assign rfl rfl (WL.assign rfl rfl (WL.nil (WX.next (W.sub [(0, _)] (.cons rfl .nil) (W.seq (W.block (W.seq (W.region (WL.move rfl rfl (WL.eqNilF Tryz.underlying28 rfl rfl rfl (WL.assign rfl rfl (WL.nil (WX.next (W.sub [(0, _), (12, _)] (.cons rfl (.cons rfl .nil)) (W.condF rfl (W.seq (W.region (WL.move rfl rfl (WL.call Tryz.call46 rfl (diskSectors_ok k w0 w _ M Has.a) rfl ?_)))))))))))))))))))))))
 rintro _ _ ⟨rfl, hw⟩
 rw [hw]; clear hw
 refine WL.lss rfl rfl rfl (WL.assign rfl rfl (WL.nil (WX.next (W.sub [(0, _), (15, _)] (.cons rfl (.cons rfl .nil)) (W.ite rfl (fun c1 => ?_) (fun c1 => ?_))))))
 ·exact absurd c1 (by omega)
 ·refine W.seq (W.region (WL.move rfl rfl (WL.call Tryz.call47 rfl (diskUp_ok k w0 w _ M Has.a) rfl ?_)))
  rintro _ _ ⟨rfl, hw⟩
  rw [hw]; clear hw
  refine WL.not rfl rfl (WL.assign rfl rfl (WL.nil (WX.next (W.sub [(0, _), (19, _)] (.cons rfl (.cons rfl .nil)) (W.cond rfl (fun c2 => ?_) (fun c2 => ?_))))))
  ·(try simp only [Bool.not_eq_true'] at c2); (try simp only [Bool.not_eq_false'] at c2); (try simp only [decide_eq_true_eq] at c2); (try simp only [decide_eq_false_iff_not] at c2)
   exact absurd c2 (by rw [hdn]; simp)
  ·(try simp only [Bool.not_eq_true'] at c2); (try simp only [Bool.not_eq_false'] at c2); (try simp only [decide_eq_true_eq] at c2); (try simp only [decide_eq_false_iff_not] at c2)
   refine W.skip (WX.blockNormal (WX.next (W.seq (W.region (WL.move rfl rfl (WL.move rfl rfl (WL.call Tryz.call46 rfl (diskSectors_ok k w0 w _ M Has.a) rfl ?_)))))))
   rintro _ _ ⟨rfl, hw⟩
   rw [hw]; clear hw
   refine WL.sub' rfl rfl (by first | exact wI64 (by omega) | rfl) rfl ?_
   refine WL.quo rfl rfl (by omega) (quoI64 (by omega)) rfl ?_
   rw [show ((k.d.safe.length : Int) - 2) / 2 = (h : Int) by rw [hh]; unfold halfD; omega]
   refine WL.buildP (places := #[(0, 1), (1, 1), (2, 1), (3, 1), (4, 1), (5, 1), (6, 1), (7, 1)]) Tryz.underlying131 Tryz.zeroValue131 (fun _ => by simp [Tryz.sizeOf28, Tryz.sizeOf47, Tryz.sizeOf3, Tryz.sizeOf84, Tryz.sizeOf82, Tryz.sizeOf3, Tryz.sizeOf3, Tryz.sizeOf4]) rfl (by repeat (first | exact Puts.nil | exact SetAt.zero | apply SetAt.succ | apply Puts.cons rfl rfl)) rfl ?_
   refine WL.box rfl M rfl ?_
   intro g7_6 w M
   try simp only [Value.cells] at M
   try simp only [List.toList_toArray] at M
   refine WL.assign rfl rfl (WL.nil (WX.next (W.sub [(0, _), (4, _)] (.cons rfl (.cons rfl .nil)) (W.seq (W.seq (W.region (WL.move rfl rfl (WL.nil (WX.next (W.sub [(0, _), (4, _), (30, _)] (.cons rfl (.cons rfl (.cons rfl .nil))) (W.block (W.loop (ι := Nat × Nat) (fun z => [(0, .pointer (some ⟨k.g, 0, none⟩)), (4, .pointer (some ⟨g7_6, 0, none⟩)), (30, .int .i64 (z.1 : Int))]) (fun zz w => Mem w0 w ((fun z => Asr.row g7_6 131 [.pointer (some ⟨k.g, 0, none⟩), .int .u64 (z.2 : Int), .int .i64 (h : Int), .slice none 0 0, .slice none 0 0, .int .i64 0, .int .i64 0, .bool false] :: k.O :: L') zz) ∧ (fun z => z.1 ≤ 2 ∧ z.2 = (if z.1 = 0 then 0 else if z.1 = 1 then (headD k.d 0).getD 0 else e)) zz) (fun z => 2 - z.1) ((0, 0)) envSub.sf ⟨M.sel Sel.a, ⟨Nat.zero_le _, rfl⟩⟩ ?_))))))))))))
   clear M; rintro (⟨a, ep⟩) w ⟨M, ⟨ha, hep⟩⟩; dsimp only at M ha hep ⊢
   refine W.sub [(0, _), (4, _), (30, _)] (.cons rfl (.cons rfl (.cons rfl .nil))) (W.seq (W.region (WL.lss rfl rfl rfl (WL.nil (WX.next (W.sub [(0, _), (4, _), (30, _), (31, _)] (.cons rfl (.cons rfl (.cons rfl (.cons rfl .nil)))) (W.seq (W.ite rfl (fun c3 => ?_) (fun c3 => ?_)))))))))
   ·have ha2 : a < 2 := by omega
    refine W.skip (WX.next (W.seq (W.block (W.seq (W.region (WL.move rfl rfl (WL.assign rfl rfl (WL.nil (WX.next (W.sub [(0, _), (4, _), (5, _), (30, _)] (.cons rfl (.cons rfl (.cons rfl (.cons rfl .nil)))) (W.seq (W.region (WL.move rfl rfl (WL.move rfl rfl (WL.call Tryz.call48 rfl (walHead_ok k w0 w _ _ hok hdn a (by omega) M Del.a) rfl ?_)))))))))))))))
    rintro _ w ⟨m, rfl, hm, M⟩
    refine WL.move rfl rfl (WL.extractL rfl rfl rfl (WL.extractL rfl rfl rfl (WL.assign rfl rfl (WL.assign rfl rfl (WL.nil (WX.next (W.sub [(0, _), (4, _), (6, _), (7, _), (30, _)] (.cons rfl (.cons rfl (.cons rfl (.cons rfl (.cons rfl .nil))))) (W.seq (W.region (WL.move rfl rfl (WL.nil (WX.next (W.sub [(0, _), (4, _), (6, _), (30, _), (39, _)] (.cons rfl (.cons rfl (.cons rfl (.cons rfl (.cons rfl .nil))))) (W.cond rfl (fun c4 => ?_) (fun c4 => ?_)))))))))))))))
    ·(try simp only [Bool.not_eq_true'] at c4); (try simp only [Bool.not_eq_false'] at c4); (try simp only [decide_eq_true_eq] at c4); (try simp only [decide_eq_false_iff_not] at c4)
     obtain ⟨n, hn⟩ := Option.isSome_iff_exists.1 c4
     have hmn := hm n hn
     refine W.region (WL.move rfl rfl (WL.move rfl rfl (WL.nilCheck rfl rfl (WL.fieldR (off := 1) Tryz.underlying131 rfl rfl Tryz.sizeOf47 rfl rfl rfl ?_))))
     refine WL.loadR Tryz.isAgg47 rfl M Has.a rfl rfl (WL.move rfl rfl (WL.max rfl rfl rfl ?_))
     rw [show max (ep : Int) (m : Int) = ((max ep m : Nat) : Int) by omega]
     refine WL.nilCheck rfl rfl (WL.fieldR (off := 1) Tryz.underlying131 rfl rfl Tryz.sizeOf47 rfl rfl rfl ?_)
     refine WL.storeR Tryz.sizeOf47 rfl rfl rfl M Has.a (by repeat (first | exact SetAt.zero | apply SetAt.succ)) Upd.a ?_
     intro w M
     refine WL.nil (WX.blockNormal (WX.next (W.sub [(0, _), (4, _), (30, _)] (.cons rfl (.cons rfl (.cons rfl .nil))) (W.region (WL.add rfl rfl (by first | exact wI64 (by omega) | rfl) rfl ?_)))))
     refine WL.move rfl rfl (WL.nil ?_)
     skip
     have q : max ep m = (if a + 1 = 0 then 0 else if a + 1 = 1 then (headD k.d 0).getD 0 else e) := by
      rw [if_neg (by omega)]
      rcases Nat.lt_or_ge a 1 with h1 | h1
      ·obtain rfl : a = 0 := by omega
       rw [if_pos rfl, hn, hep, if_pos rfl, hmn]
       simp
      ·obtain rfl : a = 1 := by omega
       rw [if_neg (by omega), he, hep, if_neg (by omega), if_pos rfl]
       unfold epochD
       rw [hn, hmn]
       simp
     refine WX.round ((a + 1, max ep m)) envSub.sf ⟨M.sel Sel.a, ⟨by dsimp only; omega, q⟩⟩ (by first | omega | (dsimp only; omega))
    ·(try simp only [Bool.not_eq_true'] at c4); (try simp only [Bool.not_eq_false'] at c4); (try simp only [decide_eq_true_eq] at c4); (try simp only [decide_eq_false_iff_not] at c4)
     refine W.skip (WX.blockNormal (WX.next (W.region (WL.add rfl rfl (by first | exact wI64 (by omega) | rfl) rfl ?_))))
     refine WL.move rfl rfl (WL.nil ?_)
     skip
     have hn : headD k.d a = none := by simpa using c4
     have q : ep = (if a + 1 = 0 then 0 else if a + 1 = 1 then (headD k.d 0).getD 0 else e) := by
      rw [if_neg (by omega)]
      rcases Nat.lt_or_ge a 1 with h1 | h1
      ·obtain rfl : a = 0 := by omega
       rw [if_pos rfl, hn, hep, if_pos rfl]
       simp
      ·obtain rfl : a = 1 := by omega
       rw [if_neg (by omega), he, hep, if_neg (by omega), if_pos rfl]
       unfold epochD
       rw [hn]
       simp
     refine WX.round ((a + 1, ep)) envSub.sf ⟨M.sel Sel.a, ⟨by dsimp only; omega, q⟩⟩ (by first | omega | (dsimp only; omega))
   ·obtain rfl : a = 2 := by omega
    have hep2 : ep = e := by rw [hep, if_neg (by omega), if_neg (by omega)]
    rw [hep2] at M
    refine W.exit (WX.thenExit (WX.thenExit (WX.blockHere (WX.next (W.seq (W.region (WL.move rfl rfl (WL.move rfl rfl (WL.nilCheck rfl rfl (WL.fieldR (off := 2) Tryz.underlying131 rfl rfl Tryz.sizeOf3 rfl rfl rfl ?_))))))))))
    refine WL.loadR Tryz.isAgg3 rfl M Has.a rfl rfl (WL.mul rfl rfl (by first | exact wI64 (by omega) | rfl) rfl ?_)
    refine WL.makeB (k := 32 * h) (by omega) Tryz.elem5 Tryz.zeroValue5 M rfl rfl (by omega) rfl ?_
    intro ga w M
    refine WL.nilCheck rfl rfl (WL.fieldR (off := 3) Tryz.underlying131 rfl rfl Tryz.sizeOf84 rfl rfl rfl ?_)
    refine WL.storeR Tryz.sizeOf84 rfl rfl rfl M Has.a (by repeat (first | exact SetAt.zero | apply SetAt.succ)) Upd.a ?_
    intro w M
    refine WL.nil (WX.next (W.sub [(0, _), (4, _)] (.cons rfl (.cons rfl .nil)) (W.seq (W.seq ?_))))
    have M2 : Mem w0 w (Asr.row g7_6 131 [.pointer (some ⟨k.g, 0, none⟩), .int .u64 (e : Int), .int .i64 (h : Int), .slice (some ⟨ga, 0, none⟩) (32 * h) (32 * h), .slice none 0 0, .int .i64 0, .int .i64 0, .bool false] :: Asr.own 5 1 (some ⟨ga, 0, none⟩) (readB k.d.now base h 0).length (32 * h) (bs (readB k.d.now base h 0)) :: k.O :: L') := by
     have e0 : readB k.d.now base h 0 = List.replicate (32 * h) 0 := by unfold readB secsB; simp
     rw [e0]
     exact M.sel Sel.a
    replace M := M2
    refine W.region (WL.move rfl rfl (WL.nilCheck rfl rfl (WL.fieldR (off := 2) Tryz.underlying131 rfl rfl Tryz.sizeOf3 rfl rfl rfl ?_)))
    refine WL.loadR Tryz.isAgg3 rfl M Has.a rfl rfl (WL.move rfl rfl (WL.nil (WX.next (W.sub [(0, _), (4, _), (62, _), (63, _)] (.cons rfl (.cons rfl (.cons rfl (.cons rfl .nil)))) (W.block (W.loop (ι := Nat) (fun i => [(0, .pointer (some ⟨k.g, 0, none⟩)), (4, .pointer (some ⟨g7_6, 0, none⟩)), (62, .int .i64 (h : Int)), (63, .int .i64 (i : Int))]) (fun zz w => Mem w0 w ((fun i => Asr.row g7_6 131 [.pointer (some ⟨k.g, 0, none⟩), .int .u64 (e : Int), .int .i64 (h : Int), .slice (some ⟨ga, 0, none⟩) (32 * h) (32 * h), .slice none 0 0, .int .i64 0, .int .i64 0, .bool false] :: Asr.own 5 1 (some ⟨ga, 0, none⟩) (readB k.d.now base h i).length (32 * h) (bs (readB k.d.now base h i)) :: k.O :: L') zz) ∧ (fun i => i ≤ h) zz) (fun i => h - i) (0) envSub.sf ⟨M.sel Sel.a, Nat.zero_le _⟩ ?_))))))
    clear M; rintro (i) w ⟨M, hi⟩; dsimp only at M hi ⊢
    refine W.sub [(0, _), (4, _), (62, _), (63, _)] (.cons rfl (.cons rfl (.cons rfl (.cons rfl .nil)))) (W.seq (W.region (WL.lss rfl rfl rfl (WL.nil (WX.next (W.sub [(0, _), (4, _), (62, _), (63, _), (64, _)] (.cons rfl (.cons rfl (.cons rfl (.cons rfl (.cons rfl .nil))))) (W.seq (W.ite rfl (fun c5 => ?_) (fun c5 => ?_)))))))))
    ·have hih : i < h := by omega
     have hrl := readB_length (now := k.d.now) (base := base) hi
     have hl32 := (el k.d.now (base + i)).h
     have hrd : k.d.read (base + i) = ((el k.d.now (base + i)).l, 0) := by unfold Dk.read; rw [if_neg (by rw [hdn]; simp)]
     refine W.skip (WX.next (W.seq (W.block (W.seq (W.region (WL.move rfl rfl (WL.assign rfl rfl (WL.nil (WX.next (W.sub [(0, _), (4, _), (8, _), (62, _), (63, _)] (.cons rfl (.cons rfl (.cons rfl (.cons rfl (.cons rfl .nil))))) (W.seq (W.region (WL.move rfl rfl (WL.move rfl rfl (WL.move rfl rfl (WL.nilCheck rfl rfl (WL.fieldR (off := 1) Tryz.underlying131 rfl rfl Tryz.sizeOf47 rfl rfl rfl ?_)))))))))))))))))
     refine WL.loadR Tryz.isAgg47 rfl M Has.a rfl rfl (WL.call Tryz.call50 rfl (walFirst_ok _ _ _ M Has.a (h := h) rfl (by omega) e (by omega)) rfl ?_)
     rintro _ _ ⟨rfl, hw⟩
     rw [hw]; clear hw
     refine WL.move rfl rfl (WL.add rfl rfl (by first | exact wI64 (by omega) | rfl) rfl ?_)
     rw [show (firstN h e : Int) + (i : Int) = ((base + i : Nat) : Int) by rw [hba]; push_cast; rfl]
     refine WL.call Tryz.call49 rfl (diskRead_ok k w0 w _ _ hok (base + i) (by omega) M Del.a) rfl ?_
     rintro _ w ⟨A1, q1, rfl, M⟩
     rw [hrd] at M ⊢
     refine WL.move rfl rfl (WL.extractL rfl rfl rfl (WL.extractL rfl rfl rfl (WL.assign rfl rfl (WL.assign rfl rfl (WL.nil (WX.next (W.sub [(0, _), (4, _), (8, _), (9, _), (10, _), (62, _), (63, _)] (.cons rfl (.cons rfl (.cons rfl (.cons rfl (.cons rfl (.cons rfl (.cons rfl .nil))))))) (W.seq (W.seq (W.region (WL.move rfl rfl (WL.neI rfl rfl rfl (WL.nil (WX.next (W.sub [(0, _), (4, _), (8, _), (9, _), (10, _), (62, _), (63, _), (80, _)] (.cons rfl (.cons rfl (.cons rfl (.cons rfl (.cons rfl (.cons rfl (.cons rfl (.cons rfl .nil)))))))) (W.ite rfl (fun c6 => ?_) (fun c6 => ?_)))))))))))))))))
     ·exact absurd rfl c6
     ·refine W.skip (WX.next ?_)
      obtain ⟨g1, rfl⟩ := M.ownSome (A := A1) (n := (el k.d.now (base + i)).l.length) Has.a (by omega)
      refine W.region (WL.move rfl rfl (WL.nilCheck rfl rfl (WL.fieldR (off := 3) Tryz.underlying131 rfl rfl Tryz.sizeOf84 rfl rfl rfl ?_)))
      refine WL.loadR Tryz.isAgg84 rfl M Has.a rfl rfl (WL.move rfl rfl (WL.mul rfl rfl (by first | exact wI64 (by omega) | rfl) rfl ?_))
      refine WL.cutL (an := i * 32) (m' := 32 * h - i * 32) Tryz.underlying84 Tryz.sizeOf5 rfl rfl (by omega) (by omega) (by push_cast; rfl) rfl rfl ?_
      refine WL.move rfl rfl ?_
      rw [cutA_lit (by omega), Nat.mul_one]
      refine WL.copyB (k := 32) (l := readB k.d.now base h i) (l' := readB k.d.now base h (i + 1)) (o := i * 32) (src := (el k.d.now (base + i)).l) Tryz.underlying84 Tryz.sizeOf5 rfl rfl (by dsimp only; rw [hl32]; exact Nat.min_eq_left (by omega)) hl32 (RdB.src (M.rdB Has.a)) (by rw [hrl, readB_length (by omega)]) (readB_step hih) (by omega) M Upd.a rfl ?_
      intro w M
      refine WL.nil (WX.blockNormal (WX.next (W.sub [(0, _), (4, _), (62, _), (63, _)] (.cons rfl (.cons rfl (.cons rfl (.cons rfl .nil)))) (W.region (WL.add rfl rfl (by first | exact wI64 (by omega) | rfl) rfl ?_)))))
      refine WL.move rfl rfl (WL.nil ?_)
      skip
      have hrl2 := readB_length (now := k.d.now) (base := base) (h := h) (i := i + 1) (by omega)
      rw [hrl.trans hrl2.symm] at M
      refine WX.round (i + 1) envSub.sf ⟨M.sel Sel.a, (by omega)⟩ (by first | omega | (dsimp only; omega))
    ·obtain rfl : i = h := by omega
     have hby : readB k.d.now base i i = bytesO k.d := by
      unfold readB bytesO baseO
      rw [Nat.sub_self, List.replicate_zero, List.append_nil, hba, hh, he]
     obtain ⟨b, hb⟩ : ∃ b, b = bytesO k.d := ⟨_, rfl⟩
     rw [hby, ← hb] at M
     have hb32 : b.length = 32 * i := by rw [hb, ← hby]; exact readB_length (Nat.le_refl _)
     obtain ⟨s1, s2, s3, s4⟩ := scanB_is b (b.length + 1) 0 (Nat.zero_le _)
     refine W.exit (WX.thenExit (WX.thenExit (WX.blockHere (WX.next (W.seq (W.region (WL.move rfl rfl ?_)))))))
     refine WL.call Tryz.call51 rfl (walScan_ok (g := g7_6) (gd := k.g) (e := e) (h := i) (ga := ga) (ca := 32 * i) w0 w _ _ b hb32 (by omega) M Del.a (by intro w M; exact M.rdB Has.a)) rfl ?_
     rintro _ w ⟨Al, cl, xs, hxs, M⟩
     refine WL.nil (WX.next (W.sub [(4, _)] (.cons rfl .nil) (W.seq (W.seq (W.region (WL.move rfl rfl (WL.call Tryz.call52 rfl (walWipe_ok k hok hup (g := g7_6) (ga := ga) (ca := 32 * i) (e := e) (h := i) (en := (scanB b (b.length + 1) 0).2) (m := xs.length) (cl := cl) (n := xs.length) (Al := Al) b s2 hb32 (by omega) hel (by omega) hwa (by omega) w0 w (Asr.lst oxE Al cl xs :: Asr.star (xs.map OX.O) :: L') (M.sel Sel.a)) rfl ?_)))))))
     rintro _ w ⟨rfl, k2, p1, p2, p3, p4, p5, M⟩
     refine WL.assign rfl rfl (WL.nil (WX.next (W.sub [(4, _), (11, _)] (.cons rfl (.cons rfl .nil)) (W.seq (W.region (WL.move rfl rfl (WL.neI rfl rfl rfl (WL.nil (WX.next (W.sub [(4, _), (11, _), (97, _)] (.cons rfl (.cons rfl (.cons rfl .nil))) (W.ite rfl (fun c7 => ?_) (fun c7 => ?_))))))))))))
     ·exact absurd rfl c7
     ·refine W.skip (WX.next (W.seq (W.region (WL.move rfl rfl (WL.assign rfl rfl (WL.assign rfl rfl (WL.nil (WX.next (W.sub [(2, _), (3, _)] (.cons rfl (.cons rfl .nil)) (W.ret (WX.ret2 rfl rfl rfl ?_)))))))))))
      have hfr : (framesB (scanB b (b.length + 1) 0).1).length = (scanB b (b.length + 1) 0).2 := by rw [s3, List.length_take, List.length_drop]; omega
      have hs : (openW k.d).2.1 = ⟨e, (scanB b (b.length + 1) 0).1, (scanB b (b.length + 1) 0).1.length, false⟩ := by unfold openW scanO; rw [← he, ← hb]
      have hs2 : (openW k.d).2.2 = (wipeD i (firstN i e) b (scanB b (b.length + 1) 0).2 k.d).2 := by unfold openW scanO baseO; rw [← hb, ← hh, ← he]
      have hxl : xs.length = (scanB b (b.length + 1) 0).1.length := by rw [← hxs, List.length_map]
      rw [areaB_open hb32] at M
      refine ⟨⟨g7_6, k.g, i, ga, 32 * i, Al, cl, xs, ⟨e, (scanB b (b.length + 1) 0).1, (scanB b (b.length + 1) 0).1.length, false⟩⟩, k2, rfl, rfl, hh, hs.symm, ⟨⟨hh2.1, hh2.2.1, by unfold usedW; dsimp only; omega, s4, hel, Nat.le_refl _⟩, hxs⟩, p1, by rw [p2, hs2], p3, p4, p5, ?_⟩
      unfold WaX.O usedW
      dsimp only
      rw [hfr, ← hxl]
      exact (Mem.star4 (M.sel (K := waRow g7_6 k.g e i ga (32 * i) Al xs.length cl xs.length (scanB b (b.length + 1) 0).2 false :: Asr.own 5 1 (some ⟨ga, 0, none⟩) (areaB i (scanB b (b.length + 1) 0).1).length (32 * i) (bs (areaB i (scanB b (b.length + 1) 0).1)) :: Asr.lst oxE Al cl xs :: Asr.star (xs.map OX.O) :: k2.O :: L') Sel.a))
end Go.Proofs.YtlminileigfkcaaGreat
namespace Go.Proofs.YtlminileigfkcaaGreat
open Go Go.RowKit Go.Lib Crc Bin
/-- A store: its log, what it has, is the power gone. -/
structure Sr where
 w : Wl
 l : List Pr
 dead : Bool
def enc1 (p : Pr) : List UInt8 := encV [⟨p.1, p.2, false⟩]
def endS (l l' : List Pr) (r : Nat × Wl × Dk) : Nat × Sr × Dk := (r.1, ⟨r.2.1, if r.1 = 0 then l' else l, decide (r.1 = 6)⟩, r.2.2)
def ckS (h : Nat) (s : Sr) (d : Dk) : Nat × Sr × Dk := endS s.l s.l (resetW h s.w d (s.l.map enc1))
def syncS (s : Sr) (d : Dk) : Nat × Sr × Dk := if s.dead = true then (6, s, d) else endS s.l s.l (syncW s.w d)
def doS (h : Nat) (s : Sr) (d : Dk) (c : List Cg) : Nat × Sr × Dk :=
 if s.dead = true then (6, s, d)
 else if encE c ≠ 0 then (encE c, s, d)
 else if (appendW h s.w d (encB c)).1 = 5 then
  if (ckS h ⟨(appendW h s.w d (encB c)).2.1, s.l, false⟩ (appendW h s.w d (encB c)).2.2).1 ≠ 0 then ckS h ⟨(appendW h s.w d (encB c)).2.1, s.l, false⟩ (appendW h s.w d (encB c)).2.2
  else endS s.l (layL s.l c) (appendW h (ckS h ⟨(appendW h s.w d (encB c)).2.1, s.l, false⟩ (appendW h s.w d (encB c)).2.2).2.1.w (ckS h ⟨(appendW h s.w d (encB c)).2.1, s.l, false⟩ (appendW h s.w d (encB c)).2.2).2.2 (encB c))
 else endS s.l (layL s.l c) (appendW h s.w d (encB c))
def loadL : List (List UInt8) → List Pr → Option (List Pr)
 | [], acc => some acc
 | b :: r, acc => match decB b with
   | none => none
   | some c => loadL r (layL acc c)
abbrev saRow (g wg gm : Nat) (dead : Bool) : Asr := Asr.row g 81 [.pointer (some ⟨wg, 0, none⟩), .map (some gm), .bool dead]
structure SaX where
 g : Nat
 gm : Nat
 wx : WaX
 ms : List Pr
 l : List Pr
 dead : Bool
def SaX.s (x : SaX) : Sr := ⟨x.wx.s, x.l, x.dead⟩
def SaX.O (x : SaX) : Asr := Asr.star [saRow x.g x.wx.g x.gm x.dead, Asr.mp strV x.gm x.ms, x.wx.O]
structure SaX.ok (x : SaX) : Prop where
 w : x.wx.ok
 p : x.ms.Perm x.l
 s : SP x.l
theorem encV_len (l : List Cg) : (encV l).length ≤ 1024 := by
 unfold encV
 split
 ·rename_i h
  exact (encE_0.1 h).2
 ·simp
theorem rising_keys {ms l : List Pr} {ys : List (List UInt8)} (hp : ms.Perm l) (hs : SP l) (h1 : ys.Perm (ms.map (·.1))) (h2 : ys.Pairwise (· < ·)) : ys = l.map (·.1) :=
 rising_eq (h1.trans (hp.map _)) h2 hs.rising
section
variable (w0 w : World) (L L' : List Asr)
theorem stTold_ok {g wg gm : Nat} {dead : Bool} (e : Nat) (M : Mem w0 w L) (hd : Del (saRow g wg gm dead) L L') :
 Fn Tryz.prog 72 [.pointer (some ⟨g, 0, none⟩), .int .i64 (e : Int)] w fun v w' => v = .int .i64 (e : Int) ∧ Mem w0 w' (saRow g wg gm (dead || decide (e = 6)) :: L') := by
 have M1 := M.del hd
 clear M
 have M := M1
 refine Fn.enter Tryz.func72 rfl Tryz.ntmps72 rfl (W.sub [(0, _), (1, _)] (.cons rfl (.cons rfl .nil)) (W.seq (W.region (WL.assign rfl rfl (WL.nil (WX.next (W.sub [(0, _), (1, _)] (.cons rfl (.cons rfl .nil)) (W.seq (W.region (WL.move rfl rfl (WL.move rfl rfl (WL.nilCheck rfl rfl (WL.fieldR (off := 2) Tryz.underlying81 rfl rfl Tryz.sizeOf4 rfl rfl rfl ?_)))))))))))))
 refine WL.loadR Tryz.isAgg4 rfl M Has.a rfl rfl (WL.moveIfB rfl rfl (fun c0 => ?_) (fun c0 => ?_))
 ·refine WL.off rfl rfl rfl rfl (WL.off rfl rfl rfl rfl (WL.pickT rfl rfl rfl (WL.nilCheck rfl rfl (WL.fieldR (off := 2) Tryz.underlying81 rfl rfl Tryz.sizeOf4 rfl rfl rfl ?_))))
  refine WL.storeR Tryz.sizeOf4 rfl rfl rfl M Has.a (by repeat (first | exact SetAt.zero | apply SetAt.succ)) Upd.a ?_
  intro w M
  refine WL.nil (WX.next (W.sub [(1, _)] (.cons rfl .nil) (W.seq (W.region (WL.move rfl rfl (WL.assign rfl rfl (WL.nil (WX.next (W.sub [(4, _)] (.cons rfl .nil) (W.ret (WX.ret1 rfl rfl ?_)))))))))))
  rw [c0, Bool.true_or]
  exact ⟨rfl, M.sel Sel.a⟩
 ·refine WL.on rfl rfl (WL.move rfl rfl (WL.on rfl rfl (WL.eqI rfl rfl rfl (WL.pickF rfl rfl rfl (WL.nilCheck rfl rfl (WL.fieldR (off := 2) Tryz.underlying81 rfl rfl Tryz.sizeOf4 rfl rfl rfl ?_))))))
  refine WL.storeR Tryz.sizeOf4 rfl rfl rfl M Has.a (by repeat (first | exact SetAt.zero | apply SetAt.succ)) Upd.a ?_
  intro w M
  refine WL.nil (WX.next (W.sub [(1, _)] (.cons rfl .nil) (W.seq (W.region (WL.move rfl rfl (WL.assign rfl rfl (WL.nil (WX.next (W.sub [(4, _)] (.cons rfl .nil) (W.ret (WX.ret1 rfl rfl ?_)))))))))))
  have hdd : dead = false := by simpa using c0
  rw [hdd, Bool.false_or]
  have e1 : decide (e = 6) = decide ((e : Int) = 6) := by rw [decide_eq_decide]; omega
  rw [e1]
  exact ⟨rfl, M.sel Sel.a⟩
set_option maxRecDepth 10000 in
theorem topAll_ok (x : SaX) (hx : x.ok) (hdd : x.dead = false) (hl12 : x.l.length ≤ 12) (M : Mem w0 w L) (hd : Del x.O L L') :
 Fn Tryz.prog 16 [.pointer (some ⟨x.g, 0, none⟩)] w fun v w' => ∃ A c, v = .slice A x.l.length c ∧ Mem w0 w' (Asr.lst pairE A c x.l :: x.O :: L') := by
 have M1 := (M.del hd).unstar3
 clear M
 have M := M1
 obtain ⟨hw, hp, hs⟩ := hx
 obtain ⟨g, gm, wx, ms, l, dead⟩ := x
 dsimp only at *
 subst hdd
 refine FnM.enter Tryz.func16 rfl Tryz.ntmps16 rfl (W.sub [(0, _)] (.cons rfl .nil) (W.seq (W.region (WL.assign rfl rfl (WL.nil (WX.next (W.sub [(0, _)] (.cons rfl .nil) (W.seq (W.region (WL.alloc Tryz.zeroValue53 M rfl ?_))))))))))
 intro g1_0 w M
 try simp only [Value.cells] at M
 try simp only [List.toList_toArray] at M
 refine WL.nil (WX.next (W.sub [(0, _), (3, _)] (.cons rfl (.cons rfl .nil)) (W.seq (W.seq (W.region (WL.move rfl rfl ?_))))))
 refine WL.call Tryz.call41 rfl (stAll_ok w0 _ _ (by rw [hp.length_eq]; exact hl12) M Has.a Has.a) rfl ?_
 rintro _ w ⟨gk, gb, gc, Ak, ck, ys, rfl, h1, h2, M⟩
 refine WL.nil (WX.next (W.sub [(3, _), (7, _)] (.cons rfl (.cons rfl .nil)) (W.block ?_)))
 have hyl := rising_keys hp hs h1 h2
 have M0 : Mem w0 w ([Asr.row gk 71 [.slice Ak ys.length ck], Asr.lst txE Ak ck ys, Asr.row gb 79 [.map (some gc)], Asr.mp strV gc ms] ++ ([Asr.row g1_0 53 [.slice none 0 0], Asr.lst pairE none 0 []] ++ (saRow g wx.g gm false :: Asr.mp strV gm ms :: wx.O :: L'))) := (M.nilOwn 124 2).sel (K := Asr.row gk 71 [.slice Ak ys.length ck] :: Asr.lst txE Ak ck ys :: Asr.row gb 79 [.map (some gc)] :: Asr.mp strV gc ms :: Asr.row g1_0 53 [.slice none 0 0] :: Asr.lst pairE none 0 [] :: saRow g wx.g gm false :: Asr.mp strV gm ms :: wx.O :: L') Sel.a
 refine W.rangeF (α := Pr) (σ := Option Addr × Nat × List Pr) (all_iter gk gb gc Ak ck ms l (by omega) hp hs ys hyl) rfl All2_call (fun _ => rfl) (fun z => [Asr.row g1_0 53 [.slice z.1 z.2.2.length z.2.1], Asr.lst pairE z.1 z.2.1 z.2.2] ++ (saRow g wx.g gm false :: Asr.mp strV gm ms :: wx.O :: L')) (fun pre z => z.2.2 = pre) (none, 0, []) rfl M0 (fun p => [(9, str p.2), (8, str p.1), (3, .pointer (some ⟨g1_0, 0, none⟩))]) (fun p => [(5, str p.2), (4, str p.1), (3, .pointer (some ⟨g1_0, 0, none⟩))]) (fun p a ha => (params2 ha rfl rfl).sub (.cons rfl (.cons rfl (.cons rfl .nil)))) ?_ ?_ ?_
 ·intro l9 x9 w9 K9 hK9
  refine WI.seq (WI.region (WL.assign rfl rfl (WLI.nil (WI.next (WI.region (WL.assign rfl rfl (WLI.nil ?_)))))))
  exact fun a9 ha9 => hK9 a9 (ha9.sub envSub.sf)
 ·rintro l9 LX pre x ⟨A, c, xs⟩ w ⟨hg9, hxl⟩ hxs M
  dsimp only at hxs M
  subst hxs
  replace M : Mem w0 w (Asr.row g1_0 53 [.slice A xs.length c] :: Asr.lst pairE A c xs :: ((saRow g wx.g gm false :: Asr.mp strV gm ms :: wx.O :: L') ++ LX)) := M
  refine WI.block (WI.region (WL.loadR Tryz.isAgg53 rfl M Has.a rfl rfl (WL.move rfl rfl (WL.move rfl rfl (WL.buildP (places := #[(0, 1), (1, 1)]) Tryz.underlying124 Tryz.zeroValue124 (fun _ => by simp [Tryz.sizeOf9, Tryz.sizeOf9]) rfl (by repeat (first | exact Puts.nil | exact SetAt.zero | apply SetAt.succ | apply Puts.cons rfl rfl)) rfl ?_)))))
  refine WL.buildL (E := pairE) (l := [((x.1, x.2) : Pr)]) Tryz.elem124 M rfl rfl rfl rfl rfl rfl ?_
  intro g5_4 w M
  refine WL.appendL (E := pairE) Tryz.elem124 rfl rfl M Del.a (by first | with_reducible assumption | with_reducible exact RdL.mem (by with_reducible assumption) M | exact M.rdL Has.a | exact RdLH.at (by assumption) (M.sel Sel.a) | exact RdL.nil _ _ _) rfl rfl (by first | omega | (simp; done) | (simp; omega)) (by first | (simp only [maxLen]; omega) | (simp [maxLen]; done) | (simp [maxLen]; omega)) rfl ?_
  intro A5_5 cap5_5 w M
  refine WL.storeR Tryz.sizeOf53 rfl rfl rfl M Has.a (by repeat (first | exact SetAt.zero | apply SetAt.succ)) Upd.a ?_
  intro w M
  refine WLI.nil (WX.blockNormal ?_)
  exact fun a9 ha9 => ⟨rfl, (A5_5, cap5_5, xs ++ [(x.1, x.2)]), rfl, M.sel Sel.a⟩
 rintro D xs ⟨A, c, zs⟩ w hxs hzs M
 dsimp only at hxs hzs M
 subst hzs
 subst hxs
 replace M := M.out2
 refine Wd.blockNormal (Wd.next (Wd.sub [(3, _)] (.cons rfl .nil) (Wd.seq (Wd.region (WL.loadR Tryz.isAgg53 rfl M Has.a rfl rfl (WL.assign rfl rfl (WL.nil (Wd.next (Wd.sub [(2, _)] (.cons rfl .nil) (Wd.ret ?_))))))))))
 refine WX.retMark rfl rfl M Del.a ?_; intro w M
 refine ⟨A, c, rfl, ?_⟩
 have M4 : Mem w0 w (saRow g wx.g gm false :: Asr.mp strV gm ms :: wx.O :: Asr.lst pairE A c zs :: L') := M.sel Sel.a
 exact (Mem.star3 M4).sel Sel.a
end
end Go.Proofs.YtlminileigfkcaaGreat
namespace Go.Proofs.YtlminileigfkcaaGreat
open Go Go.RowKit Go.Lib
set_option maxRecDepth 10000 in
theorem refNew_ok (n : Nat) (h1 : 1 ≤ n) (h2 : n ≤ 2048) (w0 : World) : Fn Tryz.prog 6 [.int .i64 (n : Int)] w0 fun v w' => ∃ x : RdX, v = .tuple #[.pointer (some ⟨x.g, 0, none⟩), .int .i64 0] ∧ x.d = Dk.start n ∧ Mem w0 w' [x.O] := by
 have M := Mem.refl w0
 obtain ⟨w, hw⟩ : ∃ w, w = w0 := ⟨w0, rfl⟩
 refine Fn.enter Tryz.func6 rfl Tryz.ntmps6 rfl (W.sub [(0, _)] (.cons rfl .nil) (W.seq (W.region (WL.assign rfl rfl (WL.assign rfl rfl (WL.nil (WX.next (W.sub [(0, _)] (.cons rfl .nil) (W.seq (W.seq (W.region (WL.move rfl rfl (WL.lss rfl rfl rfl (WL.moveIf rfl rfl (fun c0 => ?_) (fun c0 => ?_)))))))))))))))
 ·exact absurd c0 (by omega)
 ·refine WL.on rfl rfl (WL.move rfl rfl (WL.on rfl rfl (WL.gtr rfl rfl rfl (WL.pickF rfl rfl rfl (WL.nil (WX.next (W.sub [(0, _), (11, _)] (.cons rfl (.cons rfl .nil)) (W.ite rfl (fun c1 => ?_) (fun c1 => ?_)))))))))
  ·exact absurd c1 (by omega)
  ·refine W.skip (WX.next (W.seq (W.region (WL.buildP (places := #[(0, 1), (1, 1), (2, 1), (3, 1)]) Tryz.underlying74 Tryz.zeroValue74 (fun _ => by simp [Tryz.sizeOf71, Tryz.sizeOf72, Tryz.sizeOf3, Tryz.sizeOf4]) rfl (by repeat (first | exact Puts.nil | exact SetAt.zero | apply SetAt.succ | apply Puts.cons rfl rfl)) rfl ?_))))
   refine WL.box rfl M rfl ?_
   intro g3_1 w M
   try simp only [Value.cells] at M
   try simp only [List.toList_toArray] at M
   refine WL.assign rfl rfl (WL.nil (WX.next (W.sub [(0, _), (4, _)] (.cons rfl (.cons rfl .nil)) (W.seq (W.seq (W.region (WL.assign rfl rfl (WL.nil (WX.next (W.sub [(0, _), (4, _), (5, _)] (.cons rfl (.cons rfl (.cons rfl .nil))) (W.block (W.loop (ι := Nat × Option Addr × Nat) (fun z => [(0, .int .i64 (n : Int)), (4, .pointer (some ⟨g3_1, 0, none⟩)), (5, .int .i64 (z.1 : Int))]) (fun zz w => Mem w0 w ((fun z => [rdRow g3_1 z.2.1 (List.replicate z.1 sec0).length z.2.2 none 0 0 (-1) false, Asr.lst secSE z.2.1 z.2.2 (List.replicate z.1 sec0)]) zz) ∧ (fun z => z.1 ≤ n) zz) (fun z => n - z.1) ((0, none, 0)) envSub.sf ⟨((M.nilOwn 9 1).sel Sel.a), Nat.zero_le _⟩ ?_))))))))))))
   clear M; rintro (⟨i, A, c⟩) w ⟨M, hi⟩; dsimp only at M hi ⊢
   refine W.sub [(0, _), (4, _), (5, _)] (.cons rfl (.cons rfl (.cons rfl .nil))) (W.seq (W.seq (W.region (WL.move rfl rfl (WL.move rfl rfl (WL.lss rfl rfl rfl (WL.nil (WX.next (W.sub [(0, _), (4, _), (5, _), (16, _)] (.cons rfl (.cons rfl (.cons rfl (.cons rfl .nil)))) (W.ite rfl (fun c2 => ?_) (fun c2 => ?_)))))))))))
   ·have hrl : (List.replicate i sec0).length = i := List.length_replicate
    refine W.skip (WX.next (W.seq (W.block (W.drawM ([rdRow g3_1 A (List.replicate i sec0).length c none 0 0 (-1) false]) (by kernel_rfl) (fun j => [5, 6].contains j) M Sel.a ?_))))
    clear M; intro M
    apply DG.pure_ [0, 1, 2, 3] 7 rfl (by kernel_rfl) (by kernel_rfl)
    ·intro w
     refine WL.move rfl rfl (WL.move rfl rfl (WL.nilCheck rfl rfl (WL.fieldR (off := 0) Tryz.underlying74 rfl rfl Tryz.sizeOf71 rfl rfl rfl ?_)))
     exact Chain.end_ rfl
    apply DG.take [4] 6 rfl (by kernel_rfl) (by kernel_rfl) (M.sel Sel.a)
    ·intro w M
     refine WL.loadR Tryz.isAgg71 rfl M Has.a rfl rfl ?_
     exact Chain.end_ rfl
    refine DG.step 5 5 rfl (by kernel_rfl) ?_
    refine WL.call Tryz.call22 rfl (blank_ok _) rfl ?_
    rintro _ w ⟨rfl, m⟩
    replace M := M.call0 m; clear m
    refine DG.go (G := fun j => [5, 6].contains j) (i := 5) (f' := 5) (done := [0, 1, 2, 3, 4]) (fun _ => M.sel Sel.a) ?_
    refine DG.step 6 4 rfl (by kernel_rfl) ?_
    refine WL.buildL (E := secSE) (l := [sec0]) Tryz.elem9 M rfl rfl rfl rfl rfl rfl ?_
    intro g7_6 w M
    refine DG.go (G := fun j => [5, 6].contains j) (i := 6) (f' := 4) (done := [0, 1, 2, 3, 4, 5]) (fun _ => M.sel Sel.a) ?_
    refine DG.step 7 3 rfl (by kernel_rfl) ?_
    refine WL.appendL (E := secSE) Tryz.elem9 rfl rfl M Del.a (by first | with_reducible assumption | with_reducible exact RdL.mem (by with_reducible assumption) M | exact M.rdL Has.a | exact RdLH.at (by assumption) (M.sel Sel.a) | exact RdL.nil _ _ _) rfl rfl (by first | omega | (simp; done) | (simp; omega)) (by first | (simp only [maxLen]; omega) | (simp [maxLen]; done) | (simp [maxLen]; omega)) rfl ?_
    intro A7_7 cap7_7 w M
    refine DG.go (G := fun j => [5, 6].contains j) (i := 7) (f' := 3) (done := [0, 1, 2, 3, 4, 5, 6]) (fun h => by cases h) ?_
    apply DG.pure_ [8, 9] 1 rfl (by kernel_rfl) (by kernel_rfl)
    ·intro w
     refine WL.nilCheck rfl rfl (WL.fieldR (off := 0) Tryz.underlying74 rfl rfl Tryz.sizeOf71 rfl rfl rfl ?_)
     exact Chain.end_ rfl
    refine DG.step 10 0 rfl (by kernel_rfl) ?_
    refine WL.storeR Tryz.sizeOf71 rfl rfl rfl M Has.a (by repeat (first | exact SetAt.zero | apply SetAt.succ)) Upd.a ?_
    intro w M
    refine DG.go (G := fun j => [5, 6].contains j) (i := 10) (f' := 0) (done := [0, 1, 2, 3, 4, 5, 6, 7, 8, 9]) (fun h => by cases h) ?_
    refine DG.end_ (by kernel_rfl) ?_
    refine WX.blockNormal (WX.next (W.sub [(0, _), (4, _), (5, _)] (.cons rfl (.cons rfl (.cons rfl .nil))) (W.region (WL.move rfl rfl (WL.add rfl rfl (by first | exact wI64 (by omega) | rfl) rfl ?_)))))
    refine WL.assign rfl rfl (WL.nil ?_)
    skip
    have q : List.replicate i sec0 ++ [sec0] = List.replicate (i + 1) sec0 := by rw [List.replicate_succ']
    rw [q] at M
    refine WX.round ((i + 1, A7_7, cap7_7)) envSub.sf ⟨M.sel Sel.a, (by dsimp only; omega)⟩ (by first | omega | (dsimp only; omega))
   ·obtain rfl : i = n := by omega
    refine W.exit (WX.thenExit (WX.thenExit (WX.blockHere (WX.next (W.seq (W.region (WL.move rfl rfl (WL.assign rfl rfl (WL.assign rfl rfl (WL.nil (WX.next (W.sub [(2, _), (3, _)] (.cons rfl (.cons rfl .nil)) (W.ret (WX.ret2 rfl rfl rfl ?_))))))))))))))
    replace M := M.nilOwn 115 2
    refine ⟨⟨g3_1, A, c, none, 0, Dk.start i⟩, rfl, rfl, ?_⟩
    unfold RdX.O leftI Dk.start
    dsimp only
    exact Mem.star3 (M.sel Sel.a)
set_option maxHeartbeats 1000000 in
set_option maxRecDepth 10000 in
theorem refCrash_ok (x : RdX) (hx : x.d.ok) {Ak : Option Addr} {ck : Nat} {keep : List Int} (hkl : keep.length ≤ 1000000) (w0 w : World) (L L' : List Asr) (hk : RdL w0 intE Ak ck keep) (M : Mem w0 w L) (hd : Del x.O L L') :
 Fn Tryz.prog 14 [.pointer (some ⟨x.g, 0, none⟩), .slice Ak keep.length ck] w fun _ w' => ∃ x' : RdX, x'.g = x.g ∧ x'.d = x.d.crash keep ∧ Mem w0 w' (x'.O :: L') := by
 have hxl := hx.len
 have hlf := hx.left
 have hfew := hx.few
 have hat := hx.at_
 obtain ⟨g, As, cs, Aw, cw, d⟩ := x
 obtain ⟨safe, waits, armed, left, down⟩ := d
 dsimp only at *
 have M1 : Mem w0 w (rdRow g As safe.length cs Aw waits.length cw (leftI ⟨safe, waits, armed, left, down⟩) down :: Asr.lst secSE As cs safe :: Asr.lst rputE Aw cw waits :: L') := (M.del hd).unstar3
 clear M
 have M := M1
 obtain ⟨lf, hlf2⟩ : ∃ lf, lf = leftI ⟨safe, waits, armed, left, down⟩ := ⟨_, rfl⟩
 rw [← hlf2] at M
 refine Fn.enter Tryz.func14 rfl Tryz.ntmps14 rfl (W.sub [(0, _), (1, _)] (.cons rfl (.cons rfl .nil)) (W.joint (fun (_ : Unit) => [(0, .pointer (some ⟨g, 0, none⟩))]) (fun zj w => Mem w0 w ((fun _ => rdRow g As safe.length cs Aw waits.length cw lf down :: Asr.lst secSE As cs (crashN safe waits keep waits.length) :: Asr.lst rputE Aw cw waits :: L') zj) ∧ (fun _ => True) zj) ?_ ?_))
 ·refine W.seq (W.region (WL.assign rfl rfl (WL.nil (WX.next (W.sub [(0, _), (1, _), (4, _)] (.cons rfl (.cons rfl (.cons rfl .nil))) (W.block (W.loop (ι := Nat) (fun i => [(0, .pointer (some ⟨g, 0, none⟩)), (1, .slice Ak keep.length ck), (4, .int .i64 (i : Int))]) (fun zz w => Mem w0 w ((fun i => rdRow g As safe.length cs Aw waits.length cw lf down :: Asr.lst secSE As cs (crashN safe waits keep i) :: Asr.lst rputE Aw cw waits :: L') zz) ∧ (fun i => i ≤ waits.length) zz) (fun i => waits.length - i) (0) envSub.sf ⟨M.sel Sel.a, Nat.zero_le _⟩ ?_)))))))
  clear M; rintro (i) w ⟨M, hi⟩; dsimp only at M hi ⊢
  refine W.sub [(0, _), (1, _), (4, _)] (.cons rfl (.cons rfl (.cons rfl .nil))) (W.seq (W.seq (W.region (WL.move rfl rfl (WL.move rfl rfl (WL.nilCheck rfl rfl (WL.fieldR (off := 1) Tryz.underlying74 rfl rfl Tryz.sizeOf72 rfl rfl rfl ?_)))))))
  refine WL.loadR Tryz.isAgg72 rfl M Has.a rfl rfl (WL.len Tryz.underlying72 rfl rfl (WL.lss rfl rfl rfl (WL.moveIf rfl rfl (fun c0 => ?_) (fun c0 => ?_))))
  ·refine WL.on rfl rfl (WL.move rfl rfl (WL.on rfl rfl (WL.move rfl rfl (WL.on rfl rfl (WL.len Tryz.underlying24 rfl rfl (WL.on rfl rfl (WL.lss rfl rfl rfl (WL.pickT rfl rfl rfl (WL.nil (WX.next (W.sub [(0, _), (1, _), (4, _), (19, _)] (.cons rfl (.cons rfl (.cons rfl (.cons rfl .nil)))) (W.ite rfl (fun c1 => ?_) (fun c1 => ?_)))))))))))))
   ·have hil : i < waits.length := by omega
    have hik : i < keep.length := by omega
    have hai := hat _ (el_mem hil)
    have hcl := crashN_length safe waits keep i
    refine W.skip (WX.next (W.seq (W.block (W.seq (W.region (WL.move rfl rfl (WL.nilCheck rfl rfl (WL.fieldR (off := 1) Tryz.underlying74 rfl rfl Tryz.sizeOf72 rfl rfl rfl ?_))))))))
    refine WL.loadR Tryz.isAgg72 rfl M Has.a rfl rfl (WL.move rfl rfl (WL.idxA Tryz.underlying72 Tryz.sizeOf115 rfl rfl (RdL.isSome (E := rputE) (by first | with_reducible assumption | with_reducible exact RdL.mem (by with_reducible assumption) M | exact M.rdL Has.a | exact RdLH.at (by assumption) (M.sel Sel.a) | exact RdL.nil _ _ _) (by omega)) (by omega) (by omega) (by first | exact rfl | exact (Int.toNat_of_nonneg (by omega)).symm) rfl ?_))
    refine WL.loadL (E := rputE) (cs := [_, _]) Tryz.isAgg115 Tryz.sizeOf115 rfl (by first | with_reducible assumption | with_reducible exact RdL.mem (by with_reducible assumption) M | exact M.rdL Has.a | exact RdLH.at (by assumption) (M.sel Sel.a) | exact RdL.nil _ _ _) rfl (by omega) rfl rfl ?_
    refine WL.alloc Tryz.zeroValue115 M rfl ?_
    intro g3_7 w M
    try simp only [Value.cells] at M
    try simp only [List.toList_toArray] at M
    refine WL.storeWA Tryz.sizeOf115 rfl rfl (by repeat (first | exact oneNil | refine oneCons rfl ?_)) rfl rfl M Upd.a ?_
    intro w M
    refine WL.nil (WX.next (W.sub [(0, _), (1, _), (4, _), (5, _)] (.cons rfl (.cons rfl (.cons rfl (.cons rfl .nil)))) (W.seq (W.region (WL.move rfl rfl (WL.move rfl rfl (WL.idxA Tryz.underlying24 Tryz.sizeOf3 rfl rfl (RdL.isSome (E := intE) (by first | with_reducible assumption | with_reducible exact RdL.mem (by with_reducible assumption) M | exact M.rdL Has.a | exact RdLH.at (by assumption) (M.sel Sel.a) | exact RdL.nil _ _ _) (by omega)) (by omega) (by omega) (by first | exact rfl | exact (Int.toNat_of_nonneg (by omega)).symm) rfl ?_)))))))
    refine WL.loadE0 (E := intE) Tryz.isAgg3 rfl (by first | with_reducible assumption | with_reducible exact RdL.mem (by with_reducible assumption) M | exact M.rdL Has.a | exact RdLH.at (by assumption) (M.sel Sel.a) | exact RdL.nil _ _ _) (by omega) rfl rfl ?_
    refine WL.assign rfl rfl (WL.nil (WX.next (W.sub [(0, _), (1, _), (4, _), (5, _), (6, _)] (.cons rfl (.cons rfl (.cons rfl (.cons rfl (.cons rfl .nil))))) (W.joint (fun (k : Int) => [(0, .pointer (some ⟨g, 0, none⟩)), (1, .slice Ak keep.length ck), (4, .int .i64 (i : Int)), (5, .pointer (some ⟨g3_7, 0, none⟩)), (6, .int .i64 k)]) (fun zj w => Mem w0 w ((fun _ => Asr.row g3_7 115 [.int .i64 ((el waits i).1 : Int), str (el waits i).2.l] :: rdRow g As safe.length cs Aw waits.length cw lf down :: Asr.lst secSE As cs (crashN safe waits keep i) :: Asr.lst rputE Aw cw waits :: L') zj) ∧ (fun k => k = max (el keep i) 0) zj) ?_ ?_))))
    ·refine W.seq (W.region (WL.move rfl rfl (WL.lss rfl rfl rfl (WL.nil (WX.next (W.sub [(0, _), (1, _), (4, _), (5, _), (6, _), (34, _)] (.cons rfl (.cons rfl (.cons rfl (.cons rfl (.cons rfl (.cons rfl .nil)))))) (W.ite rfl (fun c2 => ?_) (fun c2 => ?_))))))))
     ·refine W.region (WL.assign rfl rfl (WL.nil (WX.join (0) envSub.sf ⟨M.sel Sel.a, (by omega)⟩)))
     ·refine W.skip (WX.join (el keep i) envSub.sf ⟨M.sel Sel.a, (by omega)⟩)
    clear M; rintro (k) w ⟨M, hk1⟩; dsimp only at M hk1 ⊢
    refine W.sub [(0, _), (1, _), (4, _), (5, _), (6, _)] (.cons rfl (.cons rfl (.cons rfl (.cons rfl (.cons rfl .nil))))) (W.joint (fun (k : Nat) => [(0, .pointer (some ⟨g, 0, none⟩)), (1, .slice Ak keep.length ck), (4, .int .i64 (i : Int)), (5, .pointer (some ⟨g3_7, 0, none⟩)), (6, .int .i64 (k : Int))]) (fun zj w => Mem w0 w ((fun _ => Asr.row g3_7 115 [.int .i64 ((el waits i).1 : Int), str (el waits i).2.l] :: rdRow g As safe.length cs Aw waits.length cw lf down :: Asr.lst secSE As cs (crashN safe waits keep i) :: Asr.lst rputE Aw cw waits :: L') zj) ∧ (fun k => k = keepN (el keep i)) zj) ?_ ?_)
    ·refine W.seq (W.region (WL.move rfl rfl (WL.gtr rfl rfl rfl (WL.nil (WX.next (W.sub [(0, _), (1, _), (4, _), (5, _), (6, _), (36, _)] (.cons rfl (.cons rfl (.cons rfl (.cons rfl (.cons rfl (.cons rfl .nil)))))) (W.ite rfl (fun c3 => ?_) (fun c3 => ?_))))))))
     ·refine W.region (WL.assign rfl rfl (WL.nil ?_))
      refine WX.join (32) envSub.sf ⟨M.sel Sel.a, (by unfold keepN; omega)⟩
     ·refine W.skip ?_
      obtain ⟨kn, hkn⟩ : ∃ kn : Nat, k = (kn : Int) := ⟨k.toNat, by omega⟩
      subst hkn
      refine WX.join (kn) envSub.sf ⟨M.sel Sel.a, (by unfold keepN; omega)⟩
    clear M; rintro (k) w ⟨M, hk2⟩; dsimp only at M hk2 ⊢
    refine W.sub [(0, _), (1, _), (4, _), (5, _), (6, _)] (.cons rfl (.cons rfl (.cons rfl (.cons rfl (.cons rfl .nil))))) ?_
    have hk32 : k ≤ 32 := by rw [hk2]; unfold keepN; omega
    have hl1 := (el waits i).2.h
    have hl2 := (el (crashN safe waits keep i) (el waits i).1).h
    refine W.drawM ([Asr.row g3_7 115 [.int .i64 ((el waits i).1 : Int), str (el waits i).2.l], rdRow g As safe.length cs Aw waits.length cw lf down, Asr.lst secSE As cs (crashN safe waits keep i)]) (by kernel_rfl) (fun j => [3, 5, 7, 9, 13, 15, 16, 17, 19, 20].contains j) M Sel.a ?_
    clear M; intro M
    apply DG.pure_ [0, 1, 2, 4, 6, 8, 10, 11, 12, 14, 18] 12 rfl (by kernel_rfl) (by kernel_rfl)
    ·intro w
     refine WL.move rfl rfl (WL.nilCheck rfl rfl (WL.fieldR (off := 0) Tryz.underlying74 rfl rfl Tryz.sizeOf71 rfl rfl rfl ?_))
     refine WL.fieldR (off := 0) Tryz.underlying115 rfl rfl Tryz.sizeOf3 rfl rfl rfl ?_
     refine WL.fieldR (off := 1) Tryz.underlying115 rfl rfl Tryz.sizeOf9 rfl rfl rfl ?_
     refine WL.move rfl rfl (WL.move rfl rfl (WL.nilCheck rfl rfl (WL.fieldR (off := 0) Tryz.underlying74 rfl rfl Tryz.sizeOf71 rfl rfl rfl ?_)))
     refine WL.fieldR (off := 0) Tryz.underlying115 rfl rfl Tryz.sizeOf3 rfl rfl rfl ?_
     refine WL.move rfl rfl ?_
     exact Chain.end_ rfl
    apply DG.take [3, 5, 7, 9, 13, 15, 16, 17, 19, 20, 21] 1 rfl (by kernel_rfl) (by kernel_rfl) (M.sel Sel.a)
    ·intro w M
     refine WL.loadR Tryz.isAgg71 rfl M Has.a rfl rfl (WL.loadR Tryz.isAgg3 rfl M Has.a rfl rfl (WL.loadR Tryz.isAgg9 rfl M Has.a rfl rfl (WL.sliceSH k Tryz.underlying9 rfl rfl rfl (by omega) rfl ?_)))
     refine WL.loadR Tryz.isAgg71 rfl M Has.a rfl rfl (WL.loadR Tryz.isAgg3 rfl M Has.a rfl rfl (WL.idxA Tryz.underlying71 Tryz.sizeOf9 rfl rfl (RdL.isSome (E := secSE) (by first | with_reducible assumption | with_reducible exact RdL.mem (by with_reducible assumption) M | exact M.rdL Has.a | exact RdLH.at (by assumption) (M.sel Sel.a) | exact RdL.nil _ _ _) (by omega)) (by omega) (by omega) (by first | exact rfl | exact (Int.toNat_of_nonneg (by omega)).symm) rfl ?_))
     refine WL.loadE0 (E := secSE) Tryz.isAgg9 rfl (by first | with_reducible assumption | with_reducible exact RdL.mem (by with_reducible assumption) M | exact M.rdL Has.a | exact RdLH.at (by assumption) (M.sel Sel.a) | exact RdL.nil _ _ _) (by omega) rfl rfl ?_
     refine WL.sliceSL k Tryz.underlying9 rfl rfl rfl (by omega) rfl ?_
     refine WL.addS rfl rfl (by simp; omega) rfl ?_
     refine WL.idxA Tryz.underlying71 Tryz.sizeOf9 rfl rfl (RdL.isSome (E := secSE) (by first | with_reducible assumption | with_reducible exact RdL.mem (by with_reducible assumption) M | exact M.rdL Has.a | exact RdLH.at (by assumption) (M.sel Sel.a) | exact RdL.nil _ _ _) (by omega)) (by omega) (by omega) (by first | exact rfl | exact (Int.toNat_of_nonneg (by omega)).symm) rfl ?_
     exact Chain.end_ rfl
    refine DG.step 22 0 rfl (by kernel_rfl) ?_
    refine WL.storeE0 (E := secSE) (x' := mixS (el waits i).2 (el (crashN safe waits keep i) (el waits i).1) k) Tryz.sizeOf9 rfl rfl rfl M Has.a (by omega) (by repeat (first | exact SetAt.zero | apply SetAt.succ)) Upd.a ?_
    intro w M
    refine DG.go (G := fun j => [3, 5, 7, 9, 13, 15, 16, 17, 19, 20].contains j) (i := 22) (f' := 0) (done := [0, 1, 2, 4, 6, 8, 10, 11, 12, 14, 18, 3, 5, 7, 9, 13, 15, 16, 17, 19, 20, 21]) (fun h => by cases h) ?_
    refine DG.end_ (by kernel_rfl) ?_
    refine WX.blockNormal (WX.next (W.sub [(0, _), (1, _), (4, _)] (.cons rfl (.cons rfl (.cons rfl .nil))) (W.region (WL.move rfl rfl (WL.add rfl rfl (by first | exact wI64 (by omega) | rfl) rfl ?_)))))
    refine WL.assign rfl rfl (WL.nil ?_)
    skip
    have q : crashN safe waits keep (i + 1) = (crashN safe waits keep i).set (el waits i).1 (mixS (el waits i).2 (el (crashN safe waits keep i) (el waits i).1) k) := by
     rw [crashN]
     (try dsimp only)
     rw [if_pos hik, hk2]
    rw [← q] at M
    refine WX.round (i + 1) envSub.sf ⟨M.sel Sel.a, (by omega)⟩ (by first | omega | (dsimp only; omega))
   ·refine W.exit (WX.thenExit (WX.thenExit (WX.blockHere ?_)))
    have q : crashN safe waits keep waits.length = crashN safe waits keep i := crashN_end safe waits keep (by omega) hi
    rw [← q] at M
    refine WX.join (()) envSub.sf ⟨M.sel Sel.a, (by first | trivial | omega | (dsimp only; omega) | (simp; done))⟩
  ·refine WL.off rfl rfl rfl rfl (WL.off rfl rfl rfl rfl (WL.off rfl rfl rfl rfl (WL.off rfl rfl rfl rfl (WL.pickF rfl rfl rfl (WL.nil (WX.next (W.sub [(0, _), (1, _), (4, _), (19, _)] (.cons rfl (.cons rfl (.cons rfl (.cons rfl .nil)))) (W.condF rfl (W.exit (WX.thenExit (WX.thenExit (WX.blockHere ?_))))))))))))
   obtain rfl : i = waits.length := by omega
   refine WX.join (()) envSub.sf ⟨M.sel Sel.a, (by first | trivial | omega | (dsimp only; omega) | (simp; done))⟩
 clear M; rintro (_) w ⟨M, _⟩; dsimp only at M ⊢
 refine W.sub [(0, _)] (.cons rfl .nil) (W.seq (W.region (WL.move rfl rfl (WL.nilCheck rfl rfl (WL.fieldR (off := 1) Tryz.underlying74 rfl rfl Tryz.sizeOf72 rfl rfl rfl ?_)))))
 refine WL.storeR Tryz.sizeOf72 rfl rfl rfl M Has.a (by repeat (first | exact SetAt.zero | apply SetAt.succ)) Upd.a ?_
 intro w M
 refine WL.nil (WX.next (W.sub [(0, _)] (.cons rfl .nil) (W.seq (W.region (WL.move rfl rfl (WL.nilCheck rfl rfl (WL.fieldR (off := 2) Tryz.underlying74 rfl rfl Tryz.sizeOf3 rfl rfl rfl ?_)))))))
 refine WL.storeR Tryz.sizeOf3 rfl rfl rfl M Has.a (by repeat (first | exact SetAt.zero | apply SetAt.succ)) Upd.a ?_
 intro w M
 refine WL.nil (WX.next (W.sub [(0, _)] (.cons rfl .nil) (W.region (WL.move rfl rfl (WL.nilCheck rfl rfl (WL.fieldR (off := 3) Tryz.underlying74 rfl rfl Tryz.sizeOf4 rfl rfl rfl ?_))))))
 refine WL.storeR Tryz.sizeOf4 rfl rfl rfl M Has.a (by repeat (first | exact SetAt.zero | apply SetAt.succ)) Upd.a ?_
 intro w M
 refine WL.nil (WX.end0 rfl ?_)
 replace M := M.nilOwn 115 2
 have hcl := crashN_length safe waits keep waits.length
 refine ⟨⟨g, As, cs, none, 0, Dk.crash ⟨safe, waits, armed, left, down⟩ keep⟩, rfl, rfl, ?_⟩
 unfold RdX.O Dk.crash leftI
 dsimp only
 rw [hcl]
 exact Mem.star3 (M.sel Sel.a)
end Go.Proofs.YtlminileigfkcaaGreat
namespace Go.Proofs.YtlminileigfkcaaGreat
open Go Go.RowKit Crc Bin
theorem headSec_l (e : Nat) (he : e < 18446744073709551616) : (headSec e).l = putG 1 (put e) ++ List.replicate (32 - (putG 1 (put e)).length) 0 ∧ (putG 1 (put e)).length = (put e).length + 10 ∧ (put e).length ≤ 10 := by
 have h1 := put_len he
 have h2 := putG_length (k := 1) (l := put e) (by omega)
 refine ⟨?_, h2, h1⟩
 unfold headSec secAt
 dsimp only
 rw [Nat.mul_zero, List.drop_zero, List.take_append, List.take_of_length_le (by omega), List.take_replicate]
 congr 2
 omega
def waCells (gd e h ga ca : Nat) (Al : Option Addr) (m cl n u : Nat) (dead : Bool) : List Value :=
 [.pointer (some ⟨gd, 0, none⟩), .int .u64 (e : Int), .int .i64 (h : Int), .slice (some ⟨ga, 0, none⟩) (32 * h) ca, .slice Al m cl, .int .i64 (n : Int), .int .i64 (u : Int), .bool dead]
set_option maxHeartbeats 4000000 in
set_option maxRecDepth 10000 in
theorem walTurn_ok (k : DkX) (hk : k.d.ok) {g e h ga ca m cl n u : Nat} {Al : Option Addr} {dd : Bool} {old : List Value} (hold : old.length = 8) (l : List (List UInt8)) (hlo : 2 ≤ h) (hhi : h ≤ 1023) (hfit : (framesB l).length ≤ 32 * h) (hca : 32 * h ≤ ca) (he : e < 4611686018427387904) (hsz : 2 + 2 * h ≤ k.d.safe.length) (hwa : k.d.waits.length ≤ 90000)
 (w0 w : World) (L L1 L2 : List Asr) (M : Mem w0 w L) (hd1 : Del (Asr.row g 131 old) L L1) (hd2 : Del k.O L1 L2) (har : RdH w0 L2 (some ⟨ga, 0, none⟩) ca (areaB h l)) :
 Fn Tryz.prog 129 [.pointer (some ⟨g, 0, none⟩), .agg #[.pointer (some ⟨k.g, 0, none⟩), .int .u64 (e : Int), .int .i64 (h : Int), .slice (some ⟨ga, 0, none⟩) (32 * h) ca, .slice Al m cl, .int .i64 (n : Int), .int .i64 (u : Int), .bool dd]] w fun v w' => v = .int .i64 ((turnW h e l k.d).1 : Int) ∧ ∃ k' : DkX, k'.g = k.g ∧ k'.d = (turnW h e l k.d).2 ∧ k'.d.ok ∧ k'.d.safe.length = k.d.safe.length ∧ k'.d.waits.length ≤ k.d.waits.length + 1100 ∧
  Mem w0 w' (Asr.row g 131 (if (turnW h e l k.d).1 = 0 then waCells k.g e h ga ca Al m cl n u dd else old) :: k'.O :: L2) := by
 have M1 := (M.del hd1).perm (List.Perm.cons _ hd2.perm)
 clear M
 have M := M1
 have hal : (areaB h l).length = 32 * h := areaB_length hfit
 have he1 : firstN h e + h ≤ k.d.safe.length := by
  have : e % 2 * h ≤ 1 * h := Nat.mul_le_mul_right _ (by omega)
  unfold firstN
  omega
 obtain ⟨r1, hr1⟩ : ∃ r, r = layD (firstN h e) (areaB h l) h 0 k.d := ⟨_, rfl⟩
 obtain ⟨hs1, hs2, hs3⟩ := headSec_l e (by omega)
 obtain ⟨ti0, ti, tz, ts, tb⟩ := info_parts (P := Tryz.prog) (e := 5) (z := .int .u8 0) (size := 1) (bytes := 1) (by kernel_rfl)
 refine Fn.enter Tryz.func129 rfl Tryz.ntmps129 rfl (W.sub [(0, _), (1, _)] (.cons rfl (.cons rfl .nil)) (W.seq (W.region (WL.box rfl M rfl ?_))))
 intro g0_0 w M
 try simp only [Value.cells] at M
 try simp only [List.toList_toArray] at M
 refine WL.assign rfl rfl (WL.nil (WX.next (W.sub [(0, _), (3, _)] (.cons rfl (.cons rfl .nil)) (W.seq (W.region (WL.fieldR (off := 3) Tryz.underlying131 rfl rfl Tryz.sizeOf84 rfl rfl rfl ?_))))))
 refine WL.loadR Tryz.isAgg84 rfl M Has.a rfl rfl (WL.len Tryz.underlying84 rfl rfl (WL.mkFn rfl rfl ?_))
 obtain ⟨Lr, hLr⟩ : ∃ Lr, Lr = Asr.row g0_0 131 (waCells k.g e h ga ca Al m cl n u dd) :: Asr.row g 131 old :: L2 := ⟨_, rfl⟩
 have hM : Mem w0 w (k.O :: Lr) := by rw [hLr]; exact M.sel Sel.a
 refine WL.call Tryz.call87 rfl (walEach_ok (from_ := 0) (to := 32 * h) (σ := Dk) (K := h) (ga := ga) (h := h) (ca := ca) _ #[.pointer (some ⟨g0_0, 0, none⟩)] (fun i d => d.write (firstN h e + i) (secAt (areaB h l) i)) (fun i d w => ∃ k' : DkX, k'.g = k.g ∧ k'.d = d ∧ d.ok ∧ d.safe.length = k.d.safe.length ∧ d.waits.length ≤ k.d.waits.length + i ∧ Mem w0 w (k'.O :: Lr)) turn1_call (by omega) (by omega) (by omega) hca (fun i d w ⟨k', _, _, _, _, _, M⟩ => by rw [hLr] at M; exact M.cellH (g := g0_0) (t := 131) Has.a 3) (fun i d w hi1 hi2 ⟨k', hk1, hk2, hk3, hk4, hk5, M⟩ => by
  subst hk2
  have hq : k'.g = k.g := hk1
  refine (turn1_ok k' w0 w _ _ hk3 (secAt (areaB h l) i) (g := g0_0) (h := h) (e := e) (i := i) (ro := waCells k.g e h ga ca Al m cl n u dd) (by rw [hq]; rfl) rfl rfl (by omega) (by omega) (by omega) M (by rw [hLr]; exact Has.a) .here (by intro w M; rw [hLr] at M; exact secAt_rd (har.at (M.sel Sel.a)) (by omega))).mono ?_
  rintro _ w' ⟨rfl, k2, q1, q2, M2⟩
  exact ⟨rfl, k2, q1.trans hk1, q2, Dk.write_ok hk3 _ (by omega) (by omega), by rw [Dk.write_len]; exact hk4, by have := Dk.write_few k'.d (firstN h e + i) (secAt (areaB h l) i); omega, M2⟩) k.d _ ⟨k, rfl, rfl, hk, rfl, by omega, hM⟩) rfl ?_
 rintro _ w ⟨rfl, i9, ⟨hi9, _⟩, k2, q1, q2, q3, q4, q5, M⟩
 rw [hLr] at M
 rw [← q1] at M
 have q2' : k2.d = r1.2 := by rw [q2, hr1]; rfl
 have e0 : eachN (fun i d => d.write (firstN h e + i) (secAt (areaB h l) i)) h (0 / 32) k.d = r1 := by rw [hr1]; rfl
 rw [e0] at q3 q4 q5 ⊢
 rw [q1] at M
 refine WL.assign rfl rfl (WL.nil (WX.next (W.sub [(0, _), (3, _), (5, _)] (.cons rfl (.cons rfl (.cons rfl .nil))) (W.seq (W.seq (W.region (WL.move rfl rfl (WL.eqI rfl rfl rfl (WL.nil (WX.next (W.sub [(0, _), (3, _), (5, _), (14, _)] (.cons rfl (.cons rfl (.cons rfl (.cons rfl .nil)))) (W.ite rfl (fun c0 => ?_) (fun c0 => ?_)))))))))))))
 ·have hz1 : ¬ r1.1 ≠ 0 := by omega
  refine W.region (WL.fieldR (off := 0) Tryz.underlying131 rfl rfl Tryz.sizeOf28 rfl rfl rfl ?_)
  refine WL.loadR (v := .pointer (some ⟨k2.g, 0, none⟩)) Tryz.isAgg28 rfl M Has.a (by rw [q1]; rfl) rfl ?_
  refine WL.call Tryz.call90 rfl (diskSync_ok k2 w0 w _ _ (by rw [q2']; exact q3) M Del.a) rfl ?_
  rintro _ w ⟨rfl, k3, p1, p2, M⟩
  have k3ok : k3.d.ok := by rw [p2]; exact Dk.sync_ok (by rw [q2']; exact q3)
  have k3len : k3.d.safe.length = k.d.safe.length := by rw [p2, Dk.sync_len, q2']; exact q4
  have k3few : k3.d.waits.length ≤ k.d.waits.length + i9 := by rw [p2]; have := Dk.sync_few k2.d; rw [q2'] at this ⊢; omega
  refine WL.assign rfl rfl (WL.nil (WX.next (W.sub [(0, _), (3, _), (5, _)] (.cons rfl (.cons rfl (.cons rfl .nil))) (W.seq (W.seq (W.region (WL.move rfl rfl (WL.eqI rfl rfl rfl (WL.nil (WX.next (W.sub [(0, _), (3, _), (5, _), (19, _)] (.cons rfl (.cons rfl (.cons rfl (.cons rfl .nil)))) (W.ite rfl (fun c1 => ?_) (fun c1 => ?_)))))))))))))
  ·have hz2 : ¬ k2.d.sync.1 ≠ 0 := by omega
   refine W.seq (W.region (WL.fieldR (off := 1) Tryz.underlying131 rfl rfl Tryz.sizeOf47 rfl rfl rfl ?_))
   refine WL.loadR (v := .int .u64 (e : Int)) Tryz.isAgg47 rfl M Has.a rfl rfl ?_
   refine WL.call Tryz.call68 rfl (PutUint_ok e (by omega) _) rfl ?_
   rintro _ w ⟨A5, c5, rfl, m⟩
   replace M := M.call1 m; clear m
   refine WL.call Tryz.call107 rfl (Put_ok 1 (put e) A5 c5 _ (by first | first | with_reducible assumption | with_reducible exact RdB.mem (by with_reducible assumption) M | exact M.rdB Has.a | exact RdH.at (by assumption) (M.sel Sel.a) | exact M.rdLit' Has.a | exact M.rdLent Has.a | exact RdB.nil _ _ | exact RdB.sub (by first | with_reducible assumption | with_reducible exact RdB.mem (by with_reducible assumption) M | exact M.rdB Has.a | exact RdH.at (by assumption) (M.sel Sel.a) | exact M.rdLit' Has.a | exact M.rdLent Has.a | exact RdB.nil _ _) (by omega) (by omega) | exact RdB.pre' (by first | with_reducible assumption | with_reducible exact RdB.mem (by with_reducible assumption) M | exact M.rdB Has.a | exact RdH.at (by assumption) (M.sel Sel.a) | exact M.rdLit' Has.a | exact M.rdLent Has.a | exact RdB.nil _ _) (by omega) | exact RdB.suf (by first | with_reducible assumption | with_reducible exact RdB.mem (by with_reducible assumption) M | exact M.rdB Has.a | exact RdH.at (by assumption) (M.sel Sel.a) | exact M.rdLit' Has.a | exact M.rdLent Has.a | exact RdB.nil _ _) (by omega))) rfl ?_
   rintro _ w ⟨A6, c6, rfl, m⟩
   replace M := M.call1 m; clear m
   refine WL.move rfl rfl (WL.extractL rfl rfl rfl (WL.extractL rfl rfl rfl (WL.assign rfl rfl (WL.assign rfl rfl (WL.nil (WX.next (W.sub [(0, _), (3, _), (6, _)] (.cons rfl (.cons rfl (.cons rfl .nil))) (W.drawM ([Asr.row g0_0 131 (waCells k.g e h ga ca Al m cl n u dd)]) (by kernel_rfl) (fun j => [1, 3, 4, 5, 10].contains j) M Sel.a ?_))))))))
   clear M; intro M
   apply DG.pure_ [0, 2, 6, 7, 8, 9] 7 rfl (by kernel_rfl) (by kernel_rfl)
   ·intro w
    refine WL.fieldR (off := 0) Tryz.underlying131 rfl rfl Tryz.sizeOf28 rfl rfl rfl ?_
    refine WL.fieldR (off := 1) Tryz.underlying131 rfl rfl Tryz.sizeOf47 rfl rfl rfl ?_
    refine WL.move rfl rfl (WL.move rfl rfl (WL.len Tryz.underlying84 rfl rfl (WL.sub' rfl rfl (by first | exact wI64 (by omega) | rfl) rfl ?_)))
    exact Chain.end_ rfl
   apply DG.take [1, 3, 4, 5] 3 rfl (by kernel_rfl) (by kernel_rfl) (M.sel Sel.a)
   ·intro w M
    refine WL.loadR (v := .pointer (some ⟨k3.g, 0, none⟩)) Tryz.isAgg28 rfl M Has.a (by rw [p1, q1]; rfl) rfl ?_
    refine WL.loadR (v := .int .u64 (e : Int)) Tryz.isAgg47 rfl M Has.a rfl rfl ?_
    refine WL.rem rfl rfl (by omega) (remN (by omega)) rfl ?_
    refine WL.conv Tryz.underlying47 Tryz.underlying3 rfl (by first | exact wI64 (by omega) | rfl) rfl ?_
    exact Chain.end_ rfl
   refine DG.step 10 2 rfl (by kernel_rfl) ?_
   refine WL.appendZ (k := 32 - (putG 1 (put e)).length) Tryz.underlying84 Tryz.underlying3 ti tz ts tb rfl rfl M Del.a rfl (by omega) (by omega) (by omega) rfl ?_
   intro A7 c7 w M
   have hl32 : (putG 1 (put e) ++ List.replicate (32 - (putG 1 (put e)).length) 0).length = 32 := by rw [List.length_append, List.length_replicate]; omega
   rw [hl32]
   refine DG.go (G := fun j => [1, 3, 4, 5, 10].contains j) (i := 10) (f' := 2) (done := [0, 2, 6, 7, 8, 9, 1, 3, 4, 5]) (fun _ => M.sel Sel.a) ?_
   refine DG.step 11 1 rfl (by kernel_rfl) ?_
   rw [show ((e : Int) % 2) = ((e % 2 : Nat) : Int) by push_cast; rfl]
   refine WL.call Tryz.call89 rfl (diskWrite_ok k3 k3ok (e % 2) (by omega) (headSec e) A7 c7 w0 _ _ _ M Del.a (by intro w M; rw [hs1]; exact M.rdB Has.a)) rfl ?_
   rintro _ w ⟨rfl, k4, t1, t2, M⟩
   refine DG.go (G := fun j => [1, 3, 4, 5, 10].contains j) (i := 11) (f' := 1) (done := [0, 2, 6, 7, 8, 9, 1, 3, 4, 5, 10]) (fun h => by cases h) ?_
   apply DG.pure_ [12] 0 rfl (by kernel_rfl) (by kernel_rfl)
   ·intro w
    refine WL.assign rfl rfl ?_
    exact Chain.end_ rfl
   refine DG.end_ (by kernel_rfl) ?_
   refine WX.next (W.sub [(0, _), (3, _), (5, _)] (.cons rfl (.cons rfl (.cons rfl .nil))) (W.seq (W.seq (W.region (WL.move rfl rfl (WL.eqI rfl rfl rfl (WL.nil (WX.next (W.sub [(0, _), (3, _), (5, _), (40, _)] (.cons rfl (.cons rfl (.cons rfl (.cons rfl .nil)))) (W.ite rfl (fun c2 => ?_) (fun c2 => ?_)))))))))))
   ·have hz3 : ¬ (k3.d.write (e % 2) (headSec e)).1 ≠ 0 := by omega
    have k4ok : k4.d.ok := by rw [t2]; exact Dk.write_ok k3ok _ (by omega) (by omega)
    have k4len : k4.d.safe.length = k.d.safe.length := by rw [t2, Dk.write_len]; exact k3len
    have k4few : k4.d.waits.length ≤ k.d.waits.length + i9 + 1 := by rw [t2]; have := Dk.write_few k3.d (e % 2) (headSec e); omega
    refine W.region (WL.fieldR (off := 0) Tryz.underlying131 rfl rfl Tryz.sizeOf28 rfl rfl rfl ?_)
    refine WL.loadR (v := .pointer (some ⟨k4.g, 0, none⟩)) Tryz.isAgg28 rfl M Has.a (by rw [t1, p1, q1]; rfl) rfl ?_
    refine WL.call Tryz.call90 rfl (diskSync_ok k4 w0 w _ _ k4ok M Del.a) rfl ?_
    rintro _ w ⟨rfl, k5, v1, v2, M⟩
    refine WL.assign rfl rfl (WL.nil (WX.next (W.sub [(0, _), (3, _), (5, _)] (.cons rfl (.cons rfl (.cons rfl .nil))) (W.seq (W.seq (W.region (WL.move rfl rfl (WL.eqI rfl rfl rfl (WL.nil (WX.next (W.sub [(0, _), (3, _), (5, _), (45, _)] (.cons rfl (.cons rfl (.cons rfl (.cons rfl .nil)))) (W.ite rfl (fun c3 => ?_) (fun c3 => ?_)))))))))))))
    ·refine W.region (WL.move rfl rfl (WL.loadW Tryz.isAgg131 Tryz.sizeOf131 rfl M Has.a rfl rfl (WL.nilCheck rfl rfl ?_)))
     refine WL.storeWA (new := waCells k.g e h ga ca Al m cl n u dd) Tryz.sizeOf131 rfl rfl (by unfold waCells; repeat (first | exact oneNil | refine oneCons rfl ?_)) hold rfl M Upd.a ?_
     intro w M
     refine WL.nil (WX.next (W.sub [(5, _)] (.cons rfl .nil) (W.seq (W.region (WL.move rfl rfl (WL.assign rfl rfl (WL.nil (WX.next (W.sub [(4, _)] (.cons rfl .nil) (W.ret (WX.ret1 rfl rfl ?_)))))))))))
     have hz4 : ¬ k4.d.sync.1 ≠ 0 := by omega
     have e1 : turnW h e l k.d = k4.d.sync := by
      unfold turnW
      rw [← hr1, if_neg hz1, ← q2', if_neg hz2, ← p2, if_neg hz3, ← t2]
     rw [e1, if_pos (by omega)]
     refine ⟨rfl, k5, by rw [v1, t1, p1, q1], v2, by rw [v2]; exact Dk.sync_ok k4ok, by rw [v2, Dk.sync_len]; exact k4len, by rw [v2]; have := Dk.sync_few k4.d; omega, M.sel Sel.a⟩
    ·refine W.skip (WX.next (W.seq (W.region (WL.move rfl rfl (WL.assign rfl rfl (WL.nil (WX.next (W.sub [(4, _)] (.cons rfl .nil) (W.ret (WX.ret1 rfl rfl ?_))))))))))
     have hz4 : k4.d.sync.1 ≠ 0 := by omega
     have e1 : turnW h e l k.d = k4.d.sync := by
      unfold turnW
      rw [← hr1, if_neg hz1, ← q2', if_neg hz2, ← p2, if_neg hz3, ← t2]
     rw [e1, if_neg (by omega)]
     refine ⟨rfl, k5, by rw [v1, t1, p1, q1], v2, by rw [v2]; exact Dk.sync_ok k4ok, by rw [v2, Dk.sync_len]; exact k4len, by rw [v2]; have := Dk.sync_few k4.d; omega, M.sel Sel.a⟩
   ·have hz3 : (k3.d.write (e % 2) (headSec e)).1 ≠ 0 := by omega
    have k4ok : k4.d.ok := by rw [t2]; exact Dk.write_ok k3ok _ (by omega) (by omega)
    have k4len : k4.d.safe.length = k.d.safe.length := by rw [t2, Dk.write_len]; exact k3len
    have k4few : k4.d.waits.length ≤ k.d.waits.length + i9 + 1 := by rw [t2]; have := Dk.write_few k3.d (e % 2) (headSec e); omega
    refine W.skip (WX.next (W.seq (W.seq (W.region (WL.move rfl rfl (WL.eqI rfl rfl rfl (WL.nil (WX.next (W.sub [(0, _), (3, _), (5, _), (45, _)] (.cons rfl (.cons rfl (.cons rfl (.cons rfl .nil)))) (W.ite rfl (fun c3 => ?_) (fun c3 => ?_)))))))))))
    ·exact absurd c3 c2
    ·refine W.skip (WX.next (W.seq (W.region (WL.move rfl rfl (WL.assign rfl rfl (WL.nil (WX.next (W.sub [(4, _)] (.cons rfl .nil) (W.ret (WX.ret1 rfl rfl ?_))))))))))
     have e1 : turnW h e l k.d = k3.d.write (e % 2) (headSec e) := by
      unfold turnW
      rw [← hr1, if_neg hz1, ← q2', if_neg hz2, ← p2, if_pos hz3]
     rw [e1, if_neg (by omega)]
     refine ⟨rfl, k4, by rw [t1, p1, q1], t2, k4ok, k4len, by omega, M.sel Sel.a⟩
  ·have hz2 : k2.d.sync.1 ≠ 0 := by omega
   refine W.skip (WX.next (W.seq (W.seq (W.region (WL.move rfl rfl (WL.eqI rfl rfl rfl (WL.nil (WX.next (W.sub [(0, _), (3, _), (5, _), (40, _)] (.cons rfl (.cons rfl (.cons rfl (.cons rfl .nil)))) (W.ite rfl (fun c2 => ?_) (fun c2 => ?_)))))))))))
   ·exact absurd c2 c1
   ·refine W.skip (WX.next (W.seq (W.seq (W.region (WL.move rfl rfl (WL.eqI rfl rfl rfl (WL.nil (WX.next (W.sub [(0, _), (3, _), (5, _), (45, _)] (.cons rfl (.cons rfl (.cons rfl (.cons rfl .nil)))) (W.ite rfl (fun c3 => ?_) (fun c3 => ?_)))))))))))
    ·exact absurd c3 c1
    ·refine W.skip (WX.next (W.seq (W.region (WL.move rfl rfl (WL.assign rfl rfl (WL.nil (WX.next (W.sub [(4, _)] (.cons rfl .nil) (W.ret (WX.ret1 rfl rfl ?_))))))))))
     have e1 : turnW h e l k.d = k2.d.sync := by
      unfold turnW
      rw [← hr1, if_neg hz1, ← q2', if_pos hz2]
     rw [e1, if_neg (by omega)]
     refine ⟨rfl, k3, by rw [p1, q1], p2, k3ok, k3len, by omega, M.sel Sel.a⟩
 ·have hz1 : r1.1 ≠ 0 := by omega
  refine W.skip (WX.next (W.seq (W.seq (W.region (WL.move rfl rfl (WL.eqI rfl rfl rfl (WL.nil (WX.next (W.sub [(0, _), (3, _), (5, _), (19, _)] (.cons rfl (.cons rfl (.cons rfl (.cons rfl .nil)))) (W.ite rfl (fun c1 => ?_) (fun c1 => ?_)))))))))))
  ·exact absurd c1 c0
  ·refine W.skip (WX.next (W.seq (W.seq (W.region (WL.move rfl rfl (WL.eqI rfl rfl rfl (WL.nil (WX.next (W.sub [(0, _), (3, _), (5, _), (40, _)] (.cons rfl (.cons rfl (.cons rfl (.cons rfl .nil)))) (W.ite rfl (fun c2 => ?_) (fun c2 => ?_)))))))))))
   ·exact absurd c2 c0
   ·refine W.skip (WX.next (W.seq (W.seq (W.region (WL.move rfl rfl (WL.eqI rfl rfl rfl (WL.nil (WX.next (W.sub [(0, _), (3, _), (5, _), (45, _)] (.cons rfl (.cons rfl (.cons rfl (.cons rfl .nil)))) (W.ite rfl (fun c3 => ?_) (fun c3 => ?_)))))))))))
    ·exact absurd c3 c0
    ·refine W.skip (WX.next (W.seq (W.region (WL.move rfl rfl (WL.assign rfl rfl (WL.nil (WX.next (W.sub [(4, _)] (.cons rfl .nil) (W.ret (WX.ret1 rfl rfl ?_))))))))))
     have e1 : turnW h e l k.d = r1 := by
      unfold turnW
      rw [← hr1, if_pos hz1]
     rw [e1, if_neg (by omega)]
     refine ⟨rfl, k2, q1, q2', by rw [q2']; exact q3, by rw [q2']; exact q4, by rw [q2']; omega, M.sel Sel.a⟩
end Go.Proofs.YtlminileigfkcaaGreat
