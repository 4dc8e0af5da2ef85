/-
  Rules, laws and walks, part 9 of 11.
-/
import Derived.Test.YtlminileigfkcaaGreatFarH
namespace Go.Proofs.YtlminileigfkcaaGreat
open Go Go.RowKit Go.Lib Crc Bin
set_option maxHeartbeats 4000000 in
set_option maxRecDepth 10000 in
theorem rwOpen_ok (k : RdX) (hok : k.d.ok) (hup : k.d.up) (h6 : 6 ≤ k.d.safe.length) (hwa : k.d.waits.length ≤ 90000) (w0 w : World) (L L' : List Asr) (M : Mem w0 w L) (hd : Del k.O L L') :
 Fn Tryz.prog 27 [.pointer (some ⟨k.g, 0, none⟩)] w fun v w' => ∃ (x : RwX) (k' : RdX), v = .tuple #[.pointer (some ⟨x.g, 0, none⟩), .int .i64 0] ∧ x.gd = k.g ∧ x.s = (openW k.d).2.1 ∧ x.ok (halfD k.d) ∧ k'.g = k.g ∧ k'.d = (openW k.d).2.2 ∧ k'.d.ok ∧ k'.d.safe.length = k.d.safe.length ∧ k'.d.waits.length ≤ k.d.waits.length + 1100 ∧
  Mem w0 w' (x.O :: k'.O :: L') := by
 have M1 := M.del hd
 clear M
 have M := M1
 have hln := hok.len
 have hdn := hup.2
 obtain ⟨h, hh⟩ : ∃ h, h = halfD k.d := ⟨_, rfl⟩
 have hh2 : 2 ≤ h ∧ h ≤ 1023 ∧ 2 + 2 * h ≤ k.d.safe.length := by rw [hh]; unfold halfD; omega
 obtain ⟨e, he⟩ : ∃ e, e = epochD k.d := ⟨_, rfl⟩
 have hel : e < 4611686018427387904 := by rw [he]; exact epochD_lt _
 have hlen : w.cell? ⟨k.g, 0, none⟩ = some (.slice k.As k.d.safe.length k.cs) := by
  exact (M.unstar3).cellH .here 0
 have hdown : w.cell? ⟨k.g, 3, none⟩ = some (.bool k.d.down) := by
  exact (M.unstar3).cellH .here 3
 refine Fn.enter Tryz.func27 rfl Tryz.ntmps27 rfl (W.sub [(0, _)] (.cons rfl .nil) (W.seq (W.region (WL.assign rfl rfl (WL.assign rfl rfl (WL.nil (WX.next (W.sub [(0, _)] (.cons rfl .nil) (W.seq (W.block (W.seq (W.region (WL.move rfl rfl (WL.nilCheck rfl rfl (WL.fieldR (off := 0) Tryz.underlying74 rfl rfl Tryz.sizeOf71 rfl rfl rfl ?_)))))))))))))))
 refine WL.load Tryz.isAgg71 rfl hlen rfl (WL.len Tryz.underlying71 rfl rfl (WL.lss rfl rfl rfl (WL.assign rfl rfl (WL.nil (WX.next (W.sub [(0, _), (13, _)] (.cons rfl (.cons rfl .nil)) (W.ite rfl (fun c0 => ?_) (fun c0 => ?_))))))))
 ·exact absurd c0 (by omega)
 ·refine W.seq (W.region (WL.move rfl rfl (WL.nilCheck rfl rfl (WL.fieldR (off := 3) Tryz.underlying74 rfl rfl Tryz.sizeOf4 rfl rfl rfl ?_))))
  refine WL.load Tryz.isAgg4 rfl hdown rfl (WL.assign rfl rfl (WL.nil (WX.next (W.sub [(0, _), (20, _)] (.cons rfl (.cons rfl .nil)) (W.cond rfl (fun c1 => ?_) (fun c1 => ?_))))))
  ·(try simp only [Bool.not_eq_true'] at c1); (try simp only [Bool.not_eq_false'] at c1); (try simp only [decide_eq_true_eq] at c1); (try simp only [decide_eq_false_iff_not] at c1)
   exact absurd c1 (by rw [hdn]; simp)
  ·(try simp only [Bool.not_eq_true'] at c1); (try simp only [Bool.not_eq_false'] at c1); (try simp only [decide_eq_true_eq] at c1); (try simp only [decide_eq_false_iff_not] at c1)
   refine W.skip (WX.blockNormal (WX.next (W.seq (W.region (WL.move rfl rfl (WL.buildP (places := #[(0, 1), (1, 1), (2, 1), (3, 1), (4, 1)]) Tryz.underlying91 Tryz.zeroValue91 (fun _ => by simp [Tryz.sizeOf32, Tryz.sizeOf47, Tryz.sizeOf82, Tryz.sizeOf3, Tryz.sizeOf4]) rfl (by repeat (first | exact Puts.nil | exact SetAt.zero | apply SetAt.succ | apply Puts.cons rfl rfl)) rfl ?_))))))
   refine WL.box rfl M rfl ?_
   intro g5_2 w M
   try simp only [Value.cells] at M
   try simp only [List.toList_toArray] at M
   refine WL.assign rfl rfl (WL.nil (WX.next (W.sub [(0, _), (4, _)] (.cons rfl (.cons rfl .nil)) (W.seq (W.seq (W.region (WL.assign rfl rfl (WL.nil (WX.next (W.sub [(0, _), (4, _), (5, _)] (.cons rfl (.cons rfl (.cons rfl .nil))) (W.block (W.loop (ι := Nat × Nat) (fun z => [(0, .pointer (some ⟨k.g, 0, none⟩)), (4, .pointer (some ⟨g5_2, 0, none⟩)), (5, .int .i64 (z.1 : Int))]) (fun zz w => Mem w0 w ((fun z => Asr.row g5_2 91 [.pointer (some ⟨k.g, 0, none⟩), .int .u64 (z.2 : Int), .slice none 0 0, .int .i64 0, .bool false] :: k.O :: L') zz) ∧ (fun z => z.1 ≤ 2 ∧ z.2 = (if z.1 = 0 then 0 else if z.1 = 1 then (headD k.d 0).getD 0 else e)) zz) (fun z => 2 - z.1) ((0, 0)) envSub.sf ⟨M.sel Sel.a, ⟨Nat.zero_le _, rfl⟩⟩ ?_))))))))))))
   clear M; rintro (⟨a, ep⟩) w ⟨M, ⟨ha, hep⟩⟩; dsimp only at M ha hep ⊢
   refine W.sub [(0, _), (4, _), (5, _)] (.cons rfl (.cons rfl (.cons rfl .nil))) (W.seq (W.seq (W.region (WL.move rfl rfl (WL.lss rfl rfl rfl (WL.nil (WX.next (W.sub [(0, _), (4, _), (5, _), (29, _)] (.cons rfl (.cons rfl (.cons rfl (.cons rfl .nil)))) (W.ite rfl (fun c2 => ?_) (fun c2 => ?_))))))))))
   ·have ha2 : a < 2 := by omega
    refine W.skip (WX.next (W.seq (W.block (W.seq (W.region (WL.move rfl rfl (WL.move rfl rfl (WL.call Tryz.call59 rfl (rwHead_ok k w0 w _ _ hok hdn a (by omega) M Del.a) rfl ?_))))))))
    rintro _ w ⟨m, rfl, hm, M⟩
    have hep1 : ∀ n, headD k.d a = some n → max ep n = (if a + 1 = 0 then 0 else if a + 1 = 1 then (headD k.d 0).getD 0 else e) := by
     intro n hn
     rw [if_neg (by omega)]
     rcases Nat.lt_or_ge a 1 with h1 | h1
     ·obtain rfl : a = 0 := by omega
      rw [if_pos rfl, hn, hep, if_pos rfl]
      simp
     ·obtain rfl : a = 1 := by omega
      rw [if_neg (by omega), he, hep, if_neg (by omega), if_pos rfl]
      unfold epochD
      rw [hn]
      simp
    refine WL.move rfl rfl (WL.extractL rfl rfl rfl (WL.extractL rfl rfl rfl (WL.assign rfl rfl (WL.assign rfl rfl (WL.nil (WX.next (W.sub [(0, _), (4, _), (5, _), (6, _), (7, _)] (.cons rfl (.cons rfl (.cons rfl (.cons rfl (.cons rfl .nil))))) (W.seq (W.region (WL.move rfl rfl (WL.moveIfB rfl rfl (fun c3 => ?_) (fun c3 => ?_))))))))))))
    ·refine WL.on rfl rfl (WL.move rfl rfl (WL.on rfl rfl (WL.move rfl rfl (WL.on rfl rfl (WL.nilCheck rfl rfl (WL.on rfl rfl (WL.fieldR (off := 1) Tryz.underlying91 rfl rfl Tryz.sizeOf47 rfl rfl rfl ?_)))))))
     refine WL.on rfl rfl (WL.loadR Tryz.isAgg47 rfl M Has.a rfl rfl (WL.on rfl rfl (WL.gtr rfl rfl rfl (WL.pickT rfl rfl rfl (WL.nil (WX.next (W.sub [(0, _), (4, _), (5, _), (6, _), (46, _)] (.cons rfl (.cons rfl (.cons rfl (.cons rfl (.cons rfl .nil))))) (W.ite rfl (fun c4 => ?_) (fun c4 => ?_)))))))))
     ·refine W.region (WL.move rfl rfl (WL.move rfl rfl (WL.nilCheck rfl rfl (WL.fieldR (off := 1) Tryz.underlying91 rfl rfl Tryz.sizeOf47 rfl rfl rfl ?_))))
      refine WL.storeR Tryz.sizeOf47 rfl rfl rfl M Has.a (by repeat (first | exact SetAt.zero | apply SetAt.succ)) Upd.a ?_
      intro w M
      refine WL.nil (WX.blockNormal (WX.next (W.sub [(0, _), (4, _), (5, _)] (.cons rfl (.cons rfl (.cons rfl .nil))) (W.region (WL.move rfl rfl (WL.add rfl rfl (by first | exact wI64 (by omega) | rfl) rfl ?_))))))
      refine WL.assign rfl rfl (WL.nil ?_)
      skip
      obtain ⟨n, hn⟩ := Option.isSome_iff_exists.1 c3
      have hmn := hm n hn
      have q : m = (if a + 1 = 0 then 0 else if a + 1 = 1 then (headD k.d 0).getD 0 else e) := by
       rw [← hep1 n hn]
       omega
      refine WX.round ((a + 1, m)) envSub.sf ⟨M.sel Sel.a, ⟨by dsimp only; omega, q⟩⟩ (by first | omega | (dsimp only; omega))
     ·refine W.skip (WX.blockNormal (WX.next (W.region (WL.move rfl rfl (WL.add rfl rfl (by first | exact wI64 (by omega) | rfl) rfl ?_)))))
      refine WL.assign rfl rfl (WL.nil ?_)
      skip
      obtain ⟨n, hn⟩ := Option.isSome_iff_exists.1 c3
      have hmn := hm n hn
      have q : ep = (if a + 1 = 0 then 0 else if a + 1 = 1 then (headD k.d 0).getD 0 else e) := by
       rw [← hep1 n hn]
       omega
      refine WX.round ((a + 1, ep)) envSub.sf ⟨M.sel Sel.a, ⟨by dsimp only; omega, q⟩⟩ (by first | omega | (dsimp only; omega))
    ·refine WL.off rfl rfl rfl rfl (WL.off rfl rfl rfl rfl (WL.off rfl rfl rfl rfl (WL.off rfl rfl rfl rfl (WL.off rfl rfl rfl rfl (WL.off rfl rfl rfl rfl (WL.pickF rfl rfl rfl (WL.nil (WX.next (W.sub [(0, _), (4, _), (5, _), (6, _), (46, _)] (.cons rfl (.cons rfl (.cons rfl (.cons rfl (.cons rfl .nil))))) (W.condF rfl (W.skip (WX.blockNormal (WX.next (W.region (WL.move rfl rfl (WL.add rfl rfl (by first | exact wI64 (by omega) | rfl) rfl ?_))))))))))))))))
     refine WL.assign rfl rfl (WL.nil ?_)
     skip
     have hn : headD k.d a = none := by simpa using c3
     have q : ep = (if a + 1 = 0 then 0 else if a + 1 = 1 then (headD k.d 0).getD 0 else e) := by
      rw [if_neg (by omega)]
      rcases Nat.lt_or_ge a 1 with h1 | h1
      ·obtain rfl : a = 0 := by omega
       rw [if_pos rfl, hn, hep, if_pos rfl]
       simp
      ·obtain rfl : a = 1 := by omega
       rw [if_neg (by omega), he, hep, if_neg (by omega), if_pos rfl]
       unfold epochD
       rw [hn]
       simp
     refine WX.round ((a + 1, ep)) envSub.sf ⟨M.sel Sel.a, ⟨by dsimp only; omega, q⟩⟩ (by first | omega | (dsimp only; omega))
   ·obtain rfl : a = 2 := by omega
    have hep2 : ep = e := by rw [hep, if_neg (by omega), if_neg (by omega)]
    rw [hep2] at M
    refine W.exit (WX.thenExit (WX.thenExit (WX.blockHere (WX.next (W.seq (W.region (WL.move rfl rfl (WL.move rfl rfl (WL.nilCheck rfl rfl (WL.fieldR (off := 1) Tryz.underlying91 rfl rfl Tryz.sizeOf47 rfl rfl rfl ?_))))))))))
    refine WL.loadR Tryz.isAgg47 rfl M Has.a rfl rfl (WL.call Tryz.call60 rfl (rwBytes_ok k w0 w _ _ hok hdn h6 e (by omega) M Del.a) rfl ?_)
    rintro _ w ⟨Ab, cb, rfl, M⟩
    refine WL.assign rfl rfl (WL.nil (WX.next (W.sub [(4, _), (8, _)] (.cons rfl (.cons rfl .nil)) (W.seq ?_))))
    have hby : secsB k.d.now (firstN (halfD k.d) e) (halfD k.d) = bytesO k.d := by
     unfold bytesO baseO
     rw [he]
    obtain ⟨b, hb⟩ : ∃ b, b = bytesO k.d := ⟨_, rfl⟩
    have hb32 : b.length = 32 * h := by rw [hb, ← hby, hh]; exact secsB_length _ _ _
    rw [hby, ← hb] at M ⊢
    obtain ⟨gb, rfl⟩ := M.ownSome (A := Ab) (n := b.length) Has.a (by omega)
    obtain ⟨T, hT⟩ : ∃ T, T = scanB b (b.length + 1) 0 := ⟨_, rfl⟩
    refine W.region (WL.assign rfl rfl (WL.nil (WX.next (W.sub [(4, _), (8, _), (9, _)] (.cons rfl (.cons rfl (.cons rfl .nil))) (W.joint (fun (z : Option Addr × Nat × List OX) => [(4, .pointer (some ⟨g5_2, 0, none⟩)), (8, .slice (some ⟨gb, 0, none⟩) b.length cb), (9, .int .i64 (T.2 : Int))]) (fun zj w => Mem w0 w ((fun z => rwRow g5_2 k.g e z.1 z.2.2.length z.2.1 0 false :: Asr.lst oxE z.1 z.2.1 z.2.2 :: Asr.star (z.2.2.map OX.O) :: Asr.own 5 1 (some ⟨gb, 0, none⟩) b.length cb (bs b) :: k.O :: L') zj) ∧ (fun z => z.2.2.map OX.l = T.1) zj) ?_ ?_)))))
    ·refine W.block ?_
     refine W.loop (ι := Nat × Nat × (Option Addr × Nat × List OX)) (fun z => [(4, .pointer (some ⟨g5_2, 0, none⟩)), (8, .slice (some ⟨gb, 0, none⟩) b.length cb), (9, .int .i64 (z.2.1 : Int))]) (fun zz w => Mem w0 w ((fun z => rwRow g5_2 k.g e z.2.2.1 z.2.2.2.2.length z.2.2.2.1 0 false :: Asr.lst oxE z.2.2.1 z.2.2.2.1 z.2.2.2.2 :: Asr.star (z.2.2.2.2.map OX.O) :: Asr.own 5 1 (some ⟨gb, 0, none⟩) b.length cb (bs b) :: k.O :: L') zz) ∧ (fun z => b.length < z.2.1 + z.1 ∧ z.2.1 ≤ b.length ∧ z.2.2.2.2.map OX.l ++ (scanB b z.1 z.2.1).1 = T.1 ∧ (scanB b z.1 z.2.1).2 = T.2 ∧ z.2.2.2.2.length * 10 ≤ z.2.1) zz) (fun z => b.length - z.2.1) ((b.length + 1, 0, none, 0, [])) envSub.sf ⟨((Mem.nilOwn (Mem.starNil M) 84 1).sel Sel.a), ⟨by dsimp only; omega, Nat.zero_le _, by rw [hT]; rfl, by rw [hT], by simp⟩⟩ ?_
     clear M; rintro (⟨f, a, Al, cl, xs⟩) w ⟨M, ⟨hf, ha, hx, ht, hx10⟩⟩; dsimp only at M hf ha hx ht hx10 ⊢
     refine W.sub [(4, _), (8, _), (9, _)] (.cons rfl (.cons rfl (.cons rfl .nil))) (W.block (W.seq ?_))
     obtain ⟨f', rfl⟩ : ∃ f', f = f' + 1 := ⟨f - 1, by omega⟩
     obtain ⟨kd, bd, to, er, hg⟩ : ∃ kd bd to er, getG b (a : Int) = (kd, bd, to, er) := ⟨_, _, _, _, rfl⟩
     rw [scanB, hg] at hx ht
     dsimp only at hx ht
     refine W.region (WL.move rfl rfl (WL.move rfl rfl (WL.call Tryz.call61 rfl (refGet_ok b (some ⟨gb, 0, none⟩) cb (a : Int) _ (M.rdB Has.a) (by omega) (by omega)) rfl ?_)))
     rintro _ w hgot
     rw [hg] at hgot
     obtain ⟨A2, q2, rfl, m⟩ := hgot
     replace M := M.call1 m; clear m
     refine WL.move rfl rfl (WL.extractL rfl rfl rfl (WL.extractL rfl rfl rfl (WL.extractL rfl rfl rfl (WL.alloc Tryz.zeroValue144 M rfl ?_))))
     intro g14_7 w M
     try simp only [Value.cells] at M
     try simp only [List.toList_toArray] at M
     refine WL.storeWA Tryz.sizeOf144 rfl rfl (by repeat (first | exact oneNil | refine oneCons rfl ?_)) rfl rfl M Upd.a ?_
     intro w M
     refine WL.assign rfl rfl (WL.assign rfl rfl (WL.nil (WX.next (W.sub [(4, _), (8, _), (9, _), (10, _), (11, _), (12, _)] (.cons rfl (.cons rfl (.cons rfl (.cons rfl (.cons rfl (.cons rfl .nil)))))) (W.seq (W.seq (W.region (WL.move rfl rfl (WL.neI rfl rfl rfl (WL.moveIf rfl rfl (fun c5 => ?_) (fun c5 => ?_)))))))))))
     ·refine WL.off rfl rfl rfl rfl (WL.off rfl rfl rfl rfl (WL.off rfl rfl rfl rfl (WL.pickT rfl rfl rfl (WL.nil (WX.next (W.sub [(4, _), (8, _), (9, _), (10, _), (11, _), (70, _)] (.cons rfl (.cons rfl (.cons rfl (.cons rfl (.cons rfl (.cons rfl .nil)))))) (W.condT rfl (W.exit (WX.thenExit (WX.blockPast rfl (WX.thenExit (WX.blockHere ?_))))))))))))
      have hbad : er ≠ 0 ∨ kd ≠ 2 := by first | (exact .inl (by simpa using c5)) | (exact .inr (fun h => c6 (by rw [h]; rfl)))
      rw [if_pos hbad] at hx ht
      dsimp only at hx ht
      rw [List.append_nil] at hx
      rw [ht]
      refine WX.join ((Al, cl, xs)) envSub.sf ⟨M.sel Sel.a, hx⟩
     ·refine WL.on rfl rfl (WL.fieldR (off := 0) Tryz.underlying144 rfl rfl Tryz.sizeOf5 rfl rfl rfl ?_)
      refine WL.on rfl rfl (WL.loadR Tryz.isAgg5 rfl M Has.a rfl rfl (WL.on rfl rfl (WL.neI rfl rfl rfl (WL.pickF rfl rfl rfl (WL.nil (WX.next (W.sub [(4, _), (8, _), (9, _), (10, _), (11, _), (70, _)] (.cons rfl (.cons rfl (.cons rfl (.cons rfl (.cons rfl (.cons rfl .nil)))))) (W.ite rfl (fun c6 => ?_) (fun c6 => ?_)))))))))
      ·refine W.exit (WX.thenExit (WX.blockPast rfl (WX.thenExit (WX.blockHere ?_))))
       have hbad : er ≠ 0 ∨ kd ≠ 2 := by first | (exact .inl (by simpa using c5)) | (exact .inr (fun h => c6 (by rw [h]; rfl)))
       rw [if_pos hbad] at hx ht
       dsimp only at hx ht
       rw [List.append_nil] at hx
       rw [ht]
       refine WX.join ((Al, cl, xs)) envSub.sf ⟨M.sel Sel.a, hx⟩
      ·have her : er = 0 := by simpa using c5
       have hkd : kd = 2 := by
        have h1 : kd.toNat = 2 := by
         have : (kd.toNat : Int) = 2 := by simpa using c6
         omega
        exact UInt8.toNat_inj.1 h1
       obtain ⟨kd2, bd2, hg2, hb2, hb3, _⟩ := getG_at ha (by rw [hg]; exact her)
       rw [hg] at hg2
       obtain ⟨rfl, rfl, rfl, _⟩ : kd = kd2 ∧ bd = bd2 ∧ to = ((a + (bd2.length + 10) : Nat) : Int) ∧ er = 0 := by simpa using hg2
       rw [if_neg (by rintro (h | h); exact h her; exact h hkd)] at hx ht
       dsimp only at hx ht
       rw [Int.toNat_natCast] at hx ht
       refine W.skip (WX.next (W.seq (W.drawM ([rwRow g5_2 k.g e Al xs.length cl 0 false, Asr.row g14_7 144 [.int .u8 (kd.toNat : Int), .slice A2 bd.length q2]]) (by kernel_rfl) (fun j => [4, 6, 7].contains j) M Sel.a ?_)))
       clear M; intro M
       apply DG.pure_ [0, 1, 2, 3, 5] 7 rfl (by kernel_rfl) (by kernel_rfl)
       ·intro w
        refine WL.move rfl rfl (WL.move rfl rfl (WL.nilCheck rfl rfl (WL.fieldR (off := 2) Tryz.underlying91 rfl rfl Tryz.sizeOf82 rfl rfl rfl ?_)))
        refine WL.fieldR (off := 1) Tryz.underlying144 rfl rfl Tryz.sizeOf84 rfl rfl rfl ?_
        exact Chain.end_ rfl
       apply DG.take [4, 6] 5 rfl (by kernel_rfl) (by kernel_rfl) (M.sel Sel.a)
       ·intro w M
        refine WL.loadR Tryz.isAgg82 rfl M Has.a rfl rfl (WL.loadR Tryz.isAgg84 rfl M Has.a rfl rfl ?_)
        exact Chain.end_ rfl
       refine DG.step 7 4 rfl (by kernel_rfl) ?_
       refine WL.buildL (E := oxE) (l := [(⟨A2, q2, bd⟩ : OX)]) Tryz.elem84 M rfl rfl rfl rfl rfl rfl ?_
       intro g16_7 w M
       refine DG.go (G := fun j => [4, 6, 7].contains j) (i := 7) (f' := 4) (done := [0, 1, 2, 3, 5, 4, 6]) (fun _ => M.sel Sel.a) ?_
       refine DG.step 8 3 rfl (by kernel_rfl) ?_
       refine WL.appendL (E := oxE) Tryz.elem84 rfl rfl M Del.a (by first | with_reducible assumption | with_reducible exact RdL.mem (by with_reducible assumption) M | exact M.rdL Has.a | exact RdLH.at (by assumption) (M.sel Sel.a) | exact RdL.nil _ _ _) rfl rfl (by first | omega | (simp; done) | (simp; omega)) (by first | (simp only [maxLen]; omega) | (simp [maxLen]; done) | (simp [maxLen]; omega)) rfl ?_
       intro A16_8 cap16_8 w M
       refine DG.go (G := fun j => [4, 6, 7].contains j) (i := 8) (f' := 3) (done := [0, 1, 2, 3, 5, 4, 6, 7]) (fun h => by cases h) ?_
       apply DG.pure_ [9, 10] 1 rfl (by kernel_rfl) (by kernel_rfl)
       ·intro w
        refine WL.nilCheck rfl rfl (WL.fieldR (off := 2) Tryz.underlying91 rfl rfl Tryz.sizeOf82 rfl rfl rfl ?_)
        exact Chain.end_ rfl
       refine DG.step 11 0 rfl (by kernel_rfl) ?_
       refine WL.storeR Tryz.sizeOf82 rfl rfl rfl M Has.a (by repeat (first | exact SetAt.zero | apply SetAt.succ)) Upd.a ?_
       intro w M
       refine DG.go (G := fun j => [4, 6, 7].contains j) (i := 11) (f' := 0) (done := [0, 1, 2, 3, 5, 4, 6, 7, 8, 9, 10]) (fun h => by cases h) ?_
       refine DG.end_ (by kernel_rfl) ?_
       refine WX.next (W.sub [(4, _), (8, _), (11, _)] (.cons rfl (.cons rfl (.cons rfl .nil))) (W.region (WL.move rfl rfl (WL.assign rfl rfl (WL.nil (WX.blockNormal ?_))))))
       skip
       obtain ⟨xs2, hxs2⟩ : ∃ xs2, xs2 = xs ++ [(⟨A2, q2, bd⟩ : OX)] := ⟨_, rfl⟩
       have M2 : Mem w0 w (Asr.star (xs2.map OX.O) :: rwRow g5_2 k.g e A16_8 xs2.length cap16_8 0 false :: Asr.lst oxE A16_8 cap16_8 xs2 :: Asr.own 5 1 (some ⟨gb, 0, none⟩) b.length cb (bs b) :: k.O :: L') := by
        rw [hxs2, List.map_append]
        refine Mem.starSnoc ?_
        exact M.sel Sel.a
       replace M := M2
       have q1 : xs2.map OX.l ++ (scanB b f' (a + (bd.length + 10))).1 = T.1 := by rw [hxs2, List.map_append, List.append_assoc]; exact hx
       refine WX.round ((f', a + (bd.length + 10), A16_8, cap16_8, xs2)) envSub.sf ⟨M.sel Sel.a, ⟨by dsimp only; omega, hb3, q1, ht, by dsimp only; rw [hxs2, List.length_append]; simp; omega⟩⟩ (by first | omega | (dsimp only; omega))
    clear M; rintro (⟨Al, cl, xs⟩) w ⟨M, hx⟩; dsimp only at M hx ⊢
    refine W.sub [(4, _), (8, _), (9, _)] (.cons rfl (.cons rfl (.cons rfl .nil))) (W.seq ?_)
    obtain ⟨s1, s2, s3, s4⟩ := scanB_is b (b.length + 1) 0 (Nat.zero_le _)
    rw [← hT] at s1 s2 s3 s4
    have hfr : (framesB T.1).length = T.2 := by rw [s3, List.length_take, List.length_drop]; omega
    have hxl : xs.length = T.1.length := by rw [← hx, List.length_map]
    have hfew := framesB_few T.1 s4
    refine W.region (WL.move rfl rfl (WL.move rfl rfl (WL.nilCheck rfl rfl (WL.fieldR (off := 2) Tryz.underlying91 rfl rfl Tryz.sizeOf82 rfl rfl rfl ?_))))
    refine WL.loadR Tryz.isAgg82 rfl M Has.a rfl rfl (WL.len Tryz.underlying82 rfl rfl (WL.nilCheck rfl rfl (WL.fieldR (off := 3) Tryz.underlying91 rfl rfl Tryz.sizeOf3 rfl rfl rfl ?_)))
    refine WL.storeR Tryz.sizeOf3 rfl rfl rfl M Has.a (by repeat (first | exact SetAt.zero | apply SetAt.succ)) Upd.a ?_
    intro w M
    refine WL.nil (WX.next (W.sub [(4, _), (8, _), (9, _)] (.cons rfl (.cons rfl (.cons rfl .nil))) (W.seq (W.region (WL.move rfl rfl (WL.move rfl rfl (WL.move rfl rfl ?_)))))))
    refine WL.call Tryz.call62 rfl (rwWiped_ok w0 w _ _ _ k hok hup h6 (g := g5_2) (gb := gb) (cb := cb) (e := e) (en := T.2) b s2 (by rw [← hh]; exact hb32) hel hwa M Del.a Del.a (by intro w M; exact M.rdB Has.a)) rfl ?_
    rintro _ w ⟨rfl, k2, p1, p2, p3, p4, p5, M⟩
    refine WL.extractL rfl rfl rfl (WL.extractL rfl rfl rfl (WL.assign rfl rfl (WL.assign rfl rfl (WL.nil (WX.next (W.sub [(2, _), (3, _)] (.cons rfl (.cons rfl .nil)) (W.ret (WX.ret2 rfl rfl rfl ?_))))))))
    have hs : (openW k.d).2.1 = ⟨e, T.1, T.1.length, false⟩ := by unfold openW scanO; rw [← he, ← hb, ← hT]
    have hs2 : (openW k.d).2.2 = (wipeD h (firstN h e) b T.2 k.d).2 := by unfold openW scanO baseO; rw [← hb, ← hh, ← he, ← hT]
    refine ⟨⟨g5_2, k.g, Al, cl, xs, ⟨e, T.1, T.1.length, false⟩⟩, k2, rfl, rfl, hs.symm, ⟨⟨by rw [← hh]; exact hh2.1, by rw [← hh]; exact hh2.2.1, by unfold usedW; dsimp only; omega, s4, hel, Nat.le_refl _⟩, hx⟩, p1, by rw [p2, hs2, hh], p3, p4, p5, ?_⟩
    unfold RwX.O
    dsimp only
    rw [← hxl]
    exact Mem.star3 (M.sel Sel.a)
end Go.Proofs.YtlminileigfkcaaGreat
namespace Go.Proofs.YtlminileigfkcaaGreat
open Go Go.RowKit Go.Lib Crc Bin
abbrev sbRow (g wg : Nat) (Al : Option Addr) (n cl : Nat) (dead : Bool) : Asr := Asr.row g 55 [.pointer (some ⟨wg, 0, none⟩), .slice Al n cl, .bool dead]
structure SbX where
 g : Nat
 wx : RwX
 Al : Option Addr
 cl : Nat
 l : List Pr
 dead : Bool
def SbX.s (x : SbX) : Sr := ⟨x.wx.s, x.l, x.dead⟩
def SbX.O (x : SbX) : Asr := Asr.star [sbRow x.g x.wx.g x.Al x.l.length x.cl x.dead, Asr.lst pairE x.Al x.cl x.l, x.wx.O]
structure SbX.ok (h : Nat) (x : SbX) : Prop where
 w : x.wx.ok h
 s : SP x.l
theorem framesB_le : ∀ (l : List (List UInt8)), (∀ x ∈ l, x.length ≤ 1024) → (framesB l).length ≤ 1034 * l.length
 | [], _ => by simp [framesB]
 | x :: l, h => by
   have h1 := putG_length (k := 2) (h x (by simp))
   have h2 := framesB_le l (fun y hy => h y (by simp [hy]))
   have h3 := h x (by simp)
   rw [framesB_cons, List.length_append, List.length_cons, h1]
   omega
theorem enc1_len (p : Pr) : (enc1 p).length ≤ 1024 := encV_len _
theorem halfD_len {d d' : Dk} (h : d'.safe.length = d.safe.length) : halfD d' = halfD d := by unfold halfD; rw [h]
section
variable (w0 w : World) (L L' L1 L2 : List Asr)
theorem rsTold_ok {g wg n cl : Nat} {Al : Option Addr} {dead : Bool} (e : Nat) (M : Mem w0 w L) (hd : Del (sbRow g wg Al n cl dead) L L') :
 Fn Tryz.prog 77 [.pointer (some ⟨g, 0, none⟩), .int .i64 (e : Int)] w fun v w' => v = .int .i64 (e : Int) ∧ Mem w0 w' (sbRow g wg Al n cl (dead || decide (e = 6)) :: L') := by
 have M1 := M.del hd
 clear M
 have M := M1
 refine Fn.enter Tryz.func77 rfl Tryz.ntmps77 rfl (W.sub [(0, _), (1, _)] (.cons rfl (.cons rfl .nil)) (W.seq (W.region (WL.assign rfl rfl (WL.nil (WX.next (W.sub [(0, _), (1, _)] (.cons rfl (.cons rfl .nil)) (W.seq (W.seq (W.region (WL.move rfl rfl (WL.eqI rfl rfl rfl (WL.nil (WX.next (W.sub [(0, _), (1, _), (6, _)] (.cons rfl (.cons rfl (.cons rfl .nil))) (W.ite rfl (fun c0 => ?_) (fun c0 => ?_)))))))))))))))))
 ·refine W.region (WL.move rfl rfl (WL.nilCheck rfl rfl (WL.fieldR (off := 2) Tryz.underlying55 rfl rfl Tryz.sizeOf4 rfl rfl rfl ?_)))
  refine WL.storeR Tryz.sizeOf4 rfl rfl rfl M Has.a (by repeat (first | exact SetAt.zero | apply SetAt.succ)) Upd.a ?_
  intro w M
  refine WL.nil (WX.next (W.sub [(1, _)] (.cons rfl .nil) (W.seq (W.region (WL.move rfl rfl (WL.assign rfl rfl (WL.nil (WX.next (W.sub [(4, _)] (.cons rfl .nil) (W.ret (WX.ret1 rfl rfl ?_)))))))))))
  have e6 : e = 6 := by omega
  rw [decide_eq_true e6, Bool.or_true]
  exact ⟨rfl, M.sel Sel.a⟩
 ·refine W.skip (WX.next (W.seq (W.region (WL.move rfl rfl (WL.assign rfl rfl (WL.nil (WX.next (W.sub [(4, _)] (.cons rfl .nil) (W.ret (WX.ret1 rfl rfl ?_))))))))))
  have e6 : ¬ e = 6 := by omega
  rw [decide_eq_false e6, Bool.or_false]
  exact ⟨rfl, M.sel Sel.a⟩
set_option maxHeartbeats 2000000 in
set_option maxRecDepth 10000 in
theorem rsCheckpoint_ok (x : SbX) (k : RdX) (hx : x.ok (halfD k.d)) (hk : k.d.ok) (hgd : x.wx.gd = k.g) (h6 : 6 ≤ k.d.safe.length) (hwa : k.d.waits.length ≤ 90000) (hdd : x.dead = false) (hl12 : x.l.length ≤ 12) (M : Mem w0 w L) (hd1 : Del x.O L L1) (hd2 : Del k.O L1 L2) :
 Fn Tryz.prog 76 [.pointer (some ⟨x.g, 0, none⟩)] w fun v w' => v = .int .i64 ((ckS (halfD k.d) x.s k.d).1 : Int) ∧ ∃ (x' : SbX) (k' : RdX), x'.g = x.g ∧ x'.wx.gd = x.wx.gd ∧ x'.s = (ckS (halfD k.d) x.s k.d).2.1 ∧ x'.ok (halfD k.d) ∧ k'.g = k.g ∧ k'.d = (ckS (halfD k.d) x.s k.d).2.2 ∧ k'.d.ok ∧ k'.d.safe.length = k.d.safe.length ∧ k'.d.waits.length ≤ k.d.waits.length + 1200 ∧
  Mem w0 w' (x'.O :: k'.O :: L2) := by
 have M1 := ((M.del hd1).perm (List.Perm.cons _ hd2.perm)).unstar3
 clear M
 have M := M1
 obtain ⟨hw, hs⟩ := hx
 obtain ⟨g, wx, Al, cl, l, dead⟩ := x
 dsimp only at *
 subst hdd
 refine Fn.enter Tryz.func76 rfl Tryz.ntmps76 rfl (W.sub [(0, _)] (.cons rfl .nil) (W.seq (W.region (WL.assign rfl rfl (WL.nil (WX.next (W.sub [(0, _)] (.cons rfl .nil) (W.seq (W.seq (W.region (WL.move rfl rfl (WL.nilCheck rfl rfl (WL.fieldR (off := 2) Tryz.underlying55 rfl rfl Tryz.sizeOf4 rfl rfl rfl ?_)))))))))))))
 refine WL.loadR Tryz.isAgg4 rfl M Has.a rfl rfl (WL.nil (WX.next (W.sub [(0, _), (11, _)] (.cons rfl (.cons rfl .nil)) (W.cond rfl (fun c0 => ?_) (fun c0 => ?_)))))
 ·(try simp only [Bool.not_eq_true'] at c0); (try simp only [Bool.not_eq_false'] at c0); (try simp only [decide_eq_true_eq] at c0); (try simp only [decide_eq_false_iff_not] at c0)
  exact absurd c0 (by simp)
 ·(try simp only [Bool.not_eq_true'] at c0); (try simp only [Bool.not_eq_false'] at c0); (try simp only [decide_eq_true_eq] at c0); (try simp only [decide_eq_false_iff_not] at c0)
  refine W.skip (WX.next (W.seq (W.region (WL.assign rfl rfl (WL.nil (WX.next (W.sub [(0, _), (3, _)] (.cons rfl (.cons rfl .nil)) (W.seq (W.seq (W.region (WL.assign rfl rfl (WL.nil (WX.next (W.sub [(0, _), (3, _), (4, _)] (.cons rfl (.cons rfl (.cons rfl .nil))) (W.block (W.loop (ι := Nat × Option Addr × Nat × List OX) (fun z => [(0, .pointer (some ⟨g, 0, none⟩)), (3, .slice z.2.1 z.2.2.2.length z.2.2.1), (4, .int .i64 (z.1 : Int))]) (fun zz w => Mem w0 w ((fun z => Asr.lst oxE z.2.1 z.2.2.1 z.2.2.2 :: Asr.star (z.2.2.2.map OX.O) :: sbRow g wx.g Al l.length cl false :: Asr.lst pairE Al cl l :: wx.O :: k.O :: L2) zz) ∧ (fun z => z.1 ≤ l.length ∧ z.2.2.2.map OX.l = (l.take z.1).map enc1) zz) (fun z => l.length - z.1) ((0, none, 0, [])) envSub.sf ⟨(((Mem.starNil M).nilOwn 84 1).sel Sel.a), ⟨Nat.zero_le _, rfl⟩⟩ ?_))))))))))))))))
  clear M; rintro (⟨i, A, c, xs⟩) w ⟨M, ⟨hi, hxs⟩⟩; dsimp only at M hi hxs ⊢
  refine W.sub [(0, _), (3, _), (4, _)] (.cons rfl (.cons rfl (.cons rfl .nil))) (W.seq (W.seq (W.region (WL.move rfl rfl (WL.move rfl rfl (WL.nilCheck rfl rfl (WL.fieldR (off := 1) Tryz.underlying55 rfl rfl Tryz.sizeOf53 rfl rfl rfl ?_)))))))
  refine WL.loadR Tryz.isAgg53 rfl M Has.a rfl rfl (WL.len Tryz.underlying53 rfl rfl (WL.lss rfl rfl rfl (WL.nil (WX.next (W.sub [(0, _), (3, _), (4, _), (18, _)] (.cons rfl (.cons rfl (.cons rfl (.cons rfl .nil)))) (W.ite rfl (fun c1 => ?_) (fun c1 => ?_)))))))
  ·have hil : i < l.length := by omega
   have hxl : xs.length = i := by have := congrArg List.length hxs; rw [List.length_map, List.length_map, List.length_take] at this; omega
   refine W.skip (WX.next (W.seq (W.block (W.seq (W.drawM ([sbRow g wx.g Al l.length cl false, Asr.lst pairE Al cl l]) (by kernel_rfl) (fun j => [3, 5, 6, 7, 11, 13, 14, 15].contains j) M Sel.a ?_)))))
   clear M; intro M
   apply DG.pure_ [0, 1, 2, 4, 8, 9, 10, 12] 16 rfl (by kernel_rfl) (by kernel_rfl)
   ·intro w
    refine WL.move rfl rfl (WL.nilCheck rfl rfl (WL.fieldR (off := 1) Tryz.underlying55 rfl rfl Tryz.sizeOf53 rfl rfl rfl ?_))
    refine WL.move rfl rfl (WL.move rfl rfl (WL.nilCheck rfl rfl (WL.fieldR (off := 1) Tryz.underlying55 rfl rfl Tryz.sizeOf53 rfl rfl rfl ?_)))
    refine WL.move rfl rfl ?_
    exact Chain.end_ rfl
   apply DG.take [3, 5, 6, 7, 11, 13, 14, 15, 16] 7 rfl (by kernel_rfl) (by kernel_rfl) (M.sel Sel.a)
   ·intro w M
    refine WL.loadR Tryz.isAgg53 rfl M Has.a rfl rfl (WL.idxA Tryz.underlying53 Tryz.sizeOf124 rfl rfl (RdL.isSome (E := pairE) (by first | with_reducible assumption | with_reducible exact RdL.mem (by with_reducible assumption) M | exact M.rdL Has.a | exact RdLH.at (by assumption) (M.sel Sel.a) | exact RdL.nil _ _ _) (by omega)) (by omega) (by omega) (by first | exact rfl | exact (Int.toNat_of_nonneg (by omega)).symm) rfl ?_)
    refine WL.fieldA (off := 0) Tryz.underlying124 rfl rfl Tryz.sizeOf9 rfl rfl rfl ?_
    refine WL.loadE (E := pairE) Tryz.isAgg9 rfl (by first | with_reducible assumption | with_reducible exact RdL.mem (by with_reducible assumption) M | exact M.rdL Has.a | exact RdLH.at (by assumption) (M.sel Sel.a) | exact RdL.nil _ _ _) (by omega) rfl rfl ?_
    refine WL.loadR Tryz.isAgg53 rfl M Has.a rfl rfl (WL.idxA Tryz.underlying53 Tryz.sizeOf124 rfl rfl (RdL.isSome (E := pairE) (by first | with_reducible assumption | with_reducible exact RdL.mem (by with_reducible assumption) M | exact M.rdL Has.a | exact RdLH.at (by assumption) (M.sel Sel.a) | exact RdL.nil _ _ _) (by omega)) (by omega) (by omega) (by first | exact rfl | exact (Int.toNat_of_nonneg (by omega)).symm) rfl ?_)
    refine WL.fieldA (off := 1) Tryz.underlying124 rfl rfl Tryz.sizeOf9 rfl rfl rfl ?_
    refine WL.loadE (E := pairE) Tryz.isAgg9 rfl (by first | with_reducible assumption | with_reducible exact RdL.mem (by with_reducible assumption) M | exact M.rdL Has.a | exact RdLH.at (by assumption) (M.sel Sel.a) | exact RdL.nil _ _ _) (by omega) rfl rfl ?_
    refine WL.buildP (places := #[(0, 1), (1, 1), (2, 1)]) Tryz.underlying63 Tryz.zeroValue63 (fun _ => by simp [Tryz.sizeOf9, Tryz.sizeOf9, Tryz.sizeOf4]) rfl (by repeat (first | exact Puts.nil | exact SetAt.zero | apply SetAt.succ | apply Puts.cons rfl rfl)) rfl ?_
    exact Chain.end_ rfl
   refine DG.step 17 6 rfl (by kernel_rfl) ?_
   refine WL.buildL (E := cgE) (l := [(⟨(el l i).1, (el l i).2, false⟩ : Cg)]) Tryz.elem63 M rfl rfl rfl rfl rfl rfl ?_
   intro g7_17 w M
   refine DG.go (G := fun j => [3, 5, 6, 7, 11, 13, 14, 15].contains j) (i := 17) (f' := 6) (done := [0, 1, 2, 4, 8, 9, 10, 12, 3, 5, 6, 7, 11, 13, 14, 15, 16]) (fun h => by cases h) ?_
   refine DG.step 18 5 rfl (by kernel_rfl) ?_
   refine WL.call Tryz.call65 rfl (refEncode_ok (l := [(⟨(el l i).1, (el l i).2, false⟩ : Cg)]) (M.rdL Has.a)) rfl ?_
   rintro _ w ⟨A8, c8', rfl, m⟩
   replace M := M.call1 m; clear m
   refine DG.go (G := fun j => [3, 5, 6, 7, 11, 13, 14, 15].contains j) (i := 18) (f' := 5) (done := [0, 1, 2, 4, 8, 9, 10, 12, 3, 5, 6, 7, 11, 13, 14, 15, 16, 17]) (fun h => by cases h) ?_
   apply DG.pure_ [19, 20, 21, 22, 23] 0 rfl (by kernel_rfl) (by kernel_rfl)
   ·intro w
    refine WL.move rfl rfl (WL.extractL rfl rfl rfl (WL.extractL rfl rfl rfl (WL.assign rfl rfl (WL.assign rfl rfl ?_))))
    exact Chain.end_ rfl
   refine DG.end_ (by kernel_rfl) ?_
   refine WX.next (W.sub [(0, _), (3, _), (4, _), (5, _)] (.cons rfl (.cons rfl (.cons rfl (.cons rfl .nil)))) (W.region (WL.move rfl rfl (WL.move rfl rfl (WL.buildL (E := oxE) (l := [(⟨A8, c8', enc1 (el l i)⟩ : OX)]) Tryz.elem84 M rfl rfl rfl rfl rfl rfl ?_)))))
   intro g8_2 w M
   refine WL.appendL (E := oxE) Tryz.elem84 rfl rfl M Del.a (by first | with_reducible assumption | with_reducible exact RdL.mem (by with_reducible assumption) M | exact M.rdL Has.a | exact RdLH.at (by assumption) (M.sel Sel.a) | exact RdL.nil _ _ _) rfl rfl (by first | omega | (simp; done) | (simp; omega)) (by first | (simp only [maxLen]; omega) | (simp [maxLen]; done) | (simp [maxLen]; omega)) rfl ?_
   intro A8_3 cap8_3 w M
   refine WL.assign rfl rfl (WL.nil (WX.blockNormal (WX.next (W.sub [(0, _), (3, _), (4, _)] (.cons rfl (.cons rfl (.cons rfl .nil))) (W.region (WL.move rfl rfl (WL.add rfl rfl (by first | exact wI64 (by omega) | rfl) rfl ?_)))))))
   refine WL.assign rfl rfl (WL.nil ?_)
   skip
   obtain ⟨xs2, hxs2⟩ : ∃ xs2, xs2 = xs ++ [(⟨A8, c8', enc1 (el l i)⟩ : OX)] := ⟨_, rfl⟩
   have hxm : xs2.map OX.l = (l.take (i + 1)).map enc1 := by
    rw [hxs2, List.map_append, hxs, List.take_succ_eq_append_getElem hil, List.map_append]
    simp [el, hil]
   have M2 : Mem w0 w (Asr.star (xs2.map OX.O) :: Asr.lst oxE A8_3 cap8_3 xs2 :: sbRow g wx.g Al l.length cl false :: Asr.lst pairE Al cl l :: wx.O :: k.O :: L2) := by
    rw [hxs2, List.map_append]
    refine Mem.starSnoc ?_
    exact M.sel Sel.a
   replace M := M2
   refine WX.round ((i + 1, A8_3, cap8_3, xs2)) (by rw [hxs2]; exact .cons rfl (.cons rfl (.cons rfl .nil))) ⟨M.sel Sel.a, ⟨by dsimp only; omega, hxm⟩⟩ (by dsimp only; omega)
  ·obtain rfl : i = l.length := by omega
   rw [List.take_length] at hxs
   have hzl : xs.length = l.length := by have := congrArg List.length hxs; simpa using this
   have hsh : ∀ y ∈ xs, y.l.length ≤ 1024 := by
    intro y hy
    have h9 : y.l ∈ l.map enc1 := by rw [← hxs]; exact List.mem_map.2 ⟨_, hy, rfl⟩
    obtain ⟨q, hq, e⟩ := List.mem_map.1 h9
    rw [← e]
    exact enc1_len q
   have hfb : (framesB (xs.map OX.l)).length ≤ 65536 := by
    have := framesB_le (xs.map OX.l) (fun y hy => by obtain ⟨z, hz, rfl⟩ := List.mem_map.1 hy; exact hsh z hz)
    rw [List.length_map] at this
    omega
   refine W.exit (WX.thenExit (WX.thenExit (WX.blockHere (WX.next (W.seq (W.region (WL.move rfl rfl (WL.nilCheck rfl rfl (WL.fieldR (off := 0) Tryz.underlying55 rfl rfl Tryz.sizeOf52 rfl rfl rfl ?_)))))))))
   refine WL.loadR Tryz.isAgg52 rfl M Has.a rfl rfl (WL.move rfl rfl ?_)
   refine WL.call Tryz.call117 rfl (rwReset_ok w0 w _ _ _ wx k hw hk hgd h6 hwa xs A c (by omega) (fun y hy => by have := hsh y hy; omega) hfb M Del.a Del.a (by intro w M; exact M.rdL Has.a) (fun y hy w M => ownRd (M.starHas (f := OX.O) Has.a hy))) rfl ?_
   rintro _ w ⟨rfl, wx2, k2, p1, p2, p4, p5, p6, p7, p8, p9, p10, M⟩
   rw [hxs] at p4 p7 ⊢
   refine WL.assign rfl rfl (WL.nil (WX.next (W.sub [(0, _), (7, _)] (.cons rfl (.cons rfl .nil)) (W.seq (W.region (WL.move rfl rfl (WL.move rfl rfl (WL.call Tryz.call77 rfl (rsTold_ok w0 _ _ _ (resetW (halfD k.d) wx.s k.d (l.map enc1)).1 M Del.a) rfl ?_))))))))
   rintro _ w ⟨rfl, M⟩
   refine WL.assign rfl rfl (WL.nil (WX.next (W.sub [(2, _)] (.cons rfl .nil) (W.ret (WX.ret1 rfl rfl (⟨rfl, ⟨g, wx2, Al, cl, l, decide ((resetW (halfD k.d) wx.s k.d (l.map enc1)).1 = 6)⟩, k2, rfl, p2, ?_, ⟨p5, hs⟩, p6, p7, p8, p9, p10, ?_⟩))))))
   ·unfold SbX.s ckS endS
    dsimp only
    rw [p4, ite_self]
   ·have M4 : Mem w0 w (sbRow g wx2.g Al l.length cl (decide ((resetW (halfD k.d) wx.s k.d (l.map enc1)).1 = 6)) :: Asr.lst pairE Al cl l :: wx2.O :: k2.O :: L2) := by
     rw [p1]
     rw [Bool.false_or] at M
     exact M.sel Sel.a
    exact (Mem.star3 M4)
theorem rsSync_ok (x : SbX) (k : RdX) (hx : x.ok (halfD k.d)) (hk : k.d.ok) (hgd : x.wx.gd = k.g) (hdd : x.dead = false) (M : Mem w0 w L) (hd1 : Del x.O L L1) (hd2 : Del k.O L1 L2) :
 Fn Tryz.prog 37 [.pointer (some ⟨x.g, 0, none⟩)] w fun v w' => v = .int .i64 ((syncS x.s k.d).1 : Int) ∧ ∃ (x' : SbX) (k' : RdX), x'.g = x.g ∧ x'.wx.gd = x.wx.gd ∧ x'.s = (syncS x.s k.d).2.1 ∧ x'.ok (halfD k.d) ∧ k'.g = k.g ∧ k'.d = (syncS x.s k.d).2.2 ∧ k'.d.ok ∧ k'.d.safe.length = k.d.safe.length ∧ k'.d.waits.length ≤ k.d.waits.length ∧
  Mem w0 w' (x'.O :: k'.O :: L2) := by
 have M1 := ((M.del hd1).perm (List.Perm.cons _ hd2.perm)).unstar3
 clear M
 have M := M1
 obtain ⟨hw, hs⟩ := hx
 obtain ⟨g, wx, Al, cl, l, dead⟩ := x
 dsimp only at *
 subst hdd
 refine Fn.enter Tryz.func37 rfl Tryz.ntmps37 rfl (W.sub [(0, _)] (.cons rfl .nil) (W.seq (W.region (WL.assign rfl rfl (WL.nil (WX.next (W.sub [(0, _)] (.cons rfl .nil) (W.seq (W.seq (W.region (WL.move rfl rfl (WL.nilCheck rfl rfl (WL.fieldR (off := 2) Tryz.underlying55 rfl rfl Tryz.sizeOf4 rfl rfl rfl ?_)))))))))))))
 refine WL.loadR Tryz.isAgg4 rfl M Has.a rfl rfl (WL.nil (WX.next (W.sub [(0, _), (7, _)] (.cons rfl (.cons rfl .nil)) (W.cond rfl (fun c0 => ?_) (fun c0 => ?_)))))
 ·(try simp only [Bool.not_eq_true'] at c0); (try simp only [Bool.not_eq_false'] at c0); (try simp only [decide_eq_true_eq] at c0); (try simp only [decide_eq_false_iff_not] at c0)
  exact absurd c0 (by simp)
 ·(try simp only [Bool.not_eq_true'] at c0); (try simp only [Bool.not_eq_false'] at c0); (try simp only [decide_eq_true_eq] at c0); (try simp only [decide_eq_false_iff_not] at c0)
  refine W.skip (WX.next (W.seq (W.region (WL.move rfl rfl (WL.nilCheck rfl rfl (WL.fieldR (off := 0) Tryz.underlying55 rfl rfl Tryz.sizeOf52 rfl rfl rfl ?_))))))
  refine WL.loadR Tryz.isAgg52 rfl M Has.a rfl rfl (WL.call Tryz.call79 rfl (rwSync_ok w0 w _ _ _ wx k hw hk hgd M Del.a Del.a) rfl ?_)
  rintro _ w ⟨rfl, wx2, k2, p1, p2, p4, p5, p6, p7, p8, p9, p10, M⟩
  refine WL.assign rfl rfl (WL.nil (WX.next (W.sub [(0, _), (3, _)] (.cons rfl (.cons rfl .nil)) (W.seq (W.region (WL.move rfl rfl (WL.move rfl rfl (WL.call Tryz.call77 rfl (rsTold_ok w0 _ _ _ (syncW wx.s k.d).1 M Del.a) rfl ?_))))))))
  rintro _ w ⟨rfl, M⟩
  refine WL.assign rfl rfl (WL.nil (WX.next (W.sub [(2, _)] (.cons rfl .nil) (W.ret (WX.ret1 rfl rfl ?_)))))
  have e1 : syncS (SbX.s ⟨g, wx, Al, cl, l, false⟩) k.d = endS l l (syncW wx.s k.d) := by unfold syncS SbX.s; rw [if_neg (by simp)]
  rw [e1]
  unfold endS
  have M4 : Mem w0 w (sbRow g wx2.g Al l.length cl (decide ((syncW wx.s k.d).1 = 6)) :: Asr.lst pairE Al cl l :: wx2.O :: k2.O :: L2) := by
   rw [p1]
   rw [Bool.false_or] at M
   exact M.sel Sel.a
  exact ⟨rfl, ⟨g, wx2, Al, cl, l, decide ((syncW wx.s k.d).1 = 6)⟩, k2, rfl, p2, by unfold SbX.s; dsimp only; rw [p4, ite_self], ⟨p5, hs⟩, p6, p7, p8, p9, p10, Mem.star3 M4⟩
end
end Go.Proofs.YtlminileigfkcaaGreat
namespace Go.Proofs.YtlminileigfkcaaGreat
open Go Go.RowKit Go.Lib Bin
theorem decC_eq {b : List UInt8} {a k1 : Nat} (h1 : (rdB b a 16).2.2 = 0) (e1 : (rdB b a 16).2.1 = (k1 : Int)) : decC b a =
 if b.length ≤ k1 ∨ 1 < (el b k1).toNat then none
 else if (el b k1).toNat = 1 then some (⟨(rdB b a 16).1, [], true⟩, k1 + 1)
 else if (rdB b (k1 + 1 : Nat) 128).2.2 ≠ 0 then none
 else some (⟨(rdB b a 16).1, (rdB b (k1 + 1 : Nat) 128).1, false⟩, (rdB b (k1 + 1 : Nat) 128).2.1.toNat) := by
 unfold decC
 rw [e1, Int.toNat_natCast]
 by_cases h : b.length ≤ k1 ∨ 1 < (el b k1).toNat
 ·rw [if_pos (.inr h), if_pos h]
 ·rw [if_neg (by rintro (h2 | h2); exact h2 h1; exact h h2), if_neg h]
theorem rdB16 {b : List UInt8} {a : Nat} (h : (rdB b a 16).2.2 = 0) : ∃ k' : Nat, (rdB b a 16).2.1 = (k' : Int) ∧ a < k' ∧ k' ≤ b.length := by
 obtain ⟨k', e, l1, l2, _⟩ := rdB_split (m := 16) h
 exact ⟨k', e, l1, l2⟩
theorem rdB128 {b : List UInt8} {a : Nat} (h : (rdB b a 128).2.2 = 0) : ∃ k' : Nat, (rdB b a 128).2.1 = (k' : Int) ∧ a < k' ∧ k' ≤ b.length := by
 obtain ⟨k', e, l1, l2, _⟩ := rdB_split (m := 128) h
 exact ⟨k', e, l1, l2⟩
section
variable {A : Option Addr} {cap : Nat} {b : List UInt8} {w0 : World}
set_option maxRecDepth 10000 in
set_option maxHeartbeats 2000000 in
theorem refDecode_ok (h : RdB w0 A cap b) (hl : b.length ≤ 1000000) : Fn Tryz.prog 28 [.slice A b.length cap] w0 (DecAns b w0) := by
 have M := Mem.refl w0
 obtain ⟨w, hw⟩ : ∃ w, w = w0 := ⟨w0, rfl⟩
 refine Fn.enter Tryz.func28 rfl Tryz.ntmps28 rfl (W.sub [(0, _)] (.cons rfl .nil) (W.seq (W.region (WL.assign rfl rfl (WL.assign rfl rfl (WL.nil (WX.next (W.sub [(0, _)] (.cons rfl .nil) (W.seq (W.region (WL.move rfl rfl (WL.call Tryz.call63 rfl (refUint_ok b A cap 0 _ (h.mem M) (by omega) (by omega)) rfl ?_))))))))))))
 rintro _ _ ⟨rfl, rfl⟩
 refine WL.move rfl rfl (WL.extractL rfl rfl rfl (WL.extractL rfl rfl rfl (WL.extractL rfl rfl rfl (WL.assign rfl rfl (WL.assign rfl rfl (WL.assign rfl rfl (WL.nil (WX.next (W.sub [(0, _), (4, _), (5, _), (6, _)] (.cons rfl (.cons rfl (.cons rfl (.cons rfl .nil)))) (W.seq (W.seq (W.region (WL.move rfl rfl (WL.neI rfl rfl rfl (WL.moveIf rfl rfl (fun c0 => ?_) (fun c0 => ?_))))))))))))))))
 ·refine WL.off rfl rfl rfl rfl (WL.off rfl rfl rfl rfl (WL.pickT rfl rfl rfl (WL.nil (WX.next (W.sub [(0, _), (4, _), (5, _), (29, _)] (.cons rfl (.cons rfl (.cons rfl (.cons rfl .nil)))) (W.condT rfl (W.seq (W.region (WL.assign rfl rfl (WL.assign rfl rfl (WL.nil (WX.next (W.sub [(2, _), (3, _)] (.cons rfl (.cons rfl .nil)) (W.ret (WX.thenRet (WX.ret2 rfl rfl rfl ?_))))))))))))))))
  exact DecAns.no M (by unfold decB; rw [if_pos (.inl c0)])
 ·refine WL.on rfl rfl (WL.move rfl rfl (WL.on rfl rfl (WL.gtr rfl rfl rfl (WL.pickF rfl rfl rfl (WL.nil (WX.next (W.sub [(0, _), (4, _), (5, _), (29, _)] (.cons rfl (.cons rfl (.cons rfl (.cons rfl .nil)))) (W.ite rfl (fun c1 => ?_) (fun c1 => ?_)))))))))
  ·refine W.seq (W.region (WL.assign rfl rfl (WL.assign rfl rfl (WL.nil (WX.next (W.sub [(2, _), (3, _)] (.cons rfl (.cons rfl .nil)) (W.ret (WX.thenRet (WX.ret2 rfl rfl rfl ?_)))))))))
   exact DecAns.no M (by unfold decB; rw [if_pos (.inr (by omega))])
  ·have h0 : (rdU b 0).2.2 = 0 := by omega
   obtain ⟨n, hn⟩ : ∃ n, n = (rdU b 0).1 := ⟨_, rfl⟩
   obtain ⟨a0, ea0, _, la0, _⟩ := rdU_split (k := 0) h0
   rw [show ((0 : Nat) : Int) = 0 from rfl] at ea0
   rw [← hn, ea0]
   have hn32 : n ≤ 32 := by omega
   obtain ⟨T, hT⟩ : ∃ T, T = decN b n a0 := ⟨_, rfl⟩
   have hnone : T = none → decB b = none := fun h => by
    unfold decB
    rw [← hn, ea0, Int.toNat_natCast, if_neg (by rintro (h2 | h2); exact h2 h0; omega), ← hT, h]
   have hsome : ∀ l a, T = some (l, a) → decB b = if encE l = 0 ∧ encV l = b then some l else none := fun l a h => by
    refine dec_ref (a2 := a) h0 (by omega) ?_
    rw [← hn, ea0, Int.toNat_natCast, ← hT, h]
   refine W.skip (WX.next (W.seq (W.region (WL.assign rfl rfl (WL.nil (WX.next (W.sub [(0, _), (4, _), (5, _), (7, _)] (.cons rfl (.cons rfl (.cons rfl (.cons rfl .nil)))) (W.seq (W.seq (W.region (WL.assign rfl rfl (WL.nil (WX.next (W.sub [(0, _), (4, _), (5, _), (7, _), (8, _)] (.cons rfl (.cons rfl (.cons rfl (.cons rfl (.cons rfl .nil))))) (W.block ?_)))))))))))))))
   refine W.loop (ι := Nat × Nat × Option Addr × Nat × List Cg) (fun z => [(0, .slice A b.length cap), (4, .int .u64 (n : Int)), (5, .int .i64 (z.2.1 : Int)), (7, .slice z.2.2.1 z.2.2.2.2.length z.2.2.2.1), (8, .int .i64 (z.1 : Int))]) (fun zz w => Mem w0 w ((fun z => [Asr.lst cgE z.2.2.1 z.2.2.2.1 z.2.2.2.2]) zz) ∧ (fun z => (z.1 ≤ n ∧ z.2.1 ≤ b.length ∧ z.2.2.2.2.length = z.1) ∧ remD b z.2.2.2.2 (n - z.1) z.2.1 = T) zz) (fun z => n - z.1) ((0, a0, none, 0, [])) envSub.sf ⟨((M.nilOwn 63 3).sel Sel.a), ⟨⟨Nat.zero_le _, la0, rfl⟩, by dsimp only; rw [remD_nil, hT]; rfl⟩⟩ ?_
   clear M; rintro (⟨i, a, Al, cl, l⟩) w ⟨M, ⟨⟨hi, ha, hll⟩, hrem⟩⟩; dsimp only at M hi ha hll hrem ⊢
   refine W.sub [(0, _), (4, _), (5, _), (7, _), (8, _)] (.cons rfl (.cons rfl (.cons rfl (.cons rfl (.cons rfl .nil))))) (W.seq (W.seq (W.region (WL.move rfl rfl (WL.move rfl rfl (WL.conv Tryz.underlying47 Tryz.underlying3 rfl (by first | exact wI64 (by omega) | rfl) rfl ?_))))))
   refine WL.lss rfl rfl rfl (WL.nil (WX.next (W.sub [(0, _), (4, _), (5, _), (7, _), (8, _), (33, _)] (.cons rfl (.cons rfl (.cons rfl (.cons rfl (.cons rfl (.cons rfl .nil)))))) (W.ite rfl (fun c2 => ?_) (fun c2 => ?_)))))
   ·have hin : i < n := by omega
    rw [show n - i = (n - (i + 1)) + 1 by omega] at hrem
    have hbad : decC b a = none → T = none := fun h => by rw [← hrem]; exact remD_none h
    refine W.skip (WX.next (W.seq (W.block (W.seq (W.region (WL.move rfl rfl (WL.move rfl rfl (WL.call Tryz.call64 rfl (refBytes_ok b A cap (a : Int) 16 _ (h.mem M) (by omega) (by omega) (by omega)) rfl ?_))))))))
    rintro _ w ⟨A9, c9', rfl, m⟩
    replace M := M.call1 m; clear m
    refine WL.move rfl rfl (WL.extractL rfl rfl rfl (WL.extractL rfl rfl rfl (WL.extractL rfl rfl rfl (WL.assign rfl rfl (WL.assign rfl rfl (WL.assign rfl rfl (WL.nil (WX.next (W.sub [(0, _), (4, _), (7, _), (8, _), (9, _), (10, _), (11, _)] (.cons rfl (.cons rfl (.cons rfl (.cons rfl (.cons rfl (.cons rfl (.cons rfl .nil))))))) (W.seq (W.seq (W.region (WL.move rfl rfl (WL.neI rfl rfl rfl (WL.moveIf rfl rfl (fun c3 => ?_) (fun c3 => ?_))))))))))))))))
    ·refine WL.off rfl rfl rfl rfl (WL.off rfl rfl rfl rfl (WL.off rfl rfl rfl rfl (WL.off rfl rfl rfl rfl (WL.pickT rfl rfl rfl (WL.move rfl rfl (WL.off rfl rfl rfl rfl (WL.off rfl rfl rfl rfl (WL.off rfl rfl rfl rfl (WL.off rfl rfl rfl rfl (WL.off rfl rfl rfl rfl (WL.pickT rfl rfl rfl (WL.nil (WX.next (W.sub [(0, _), (4, _), (7, _), (8, _), (9, _), (10, _), (57, _)] (.cons rfl (.cons rfl (.cons rfl (.cons rfl (.cons rfl (.cons rfl (.cons rfl .nil))))))) (W.condT rfl (W.seq (W.region (WL.assign rfl rfl (WL.assign rfl rfl (WL.nil (WX.next (W.sub [(2, _), (3, _)] (.cons rfl (.cons rfl .nil)) (W.ret (WX.thenRet (WX.blockRet (WX.thenRet (WX.thenRet (WX.blockRet (WX.thenRet (WX.ret2 rfl rfl rfl ?_))))))))))))))))))))))))))))))
     exact DecAns.no M (hnone (hbad (by unfold decC; rw [if_pos (.inl c3)])))
    ·have h1 : (rdB b a 16).2.2 = 0 := by omega
     obtain ⟨k1, e1, l1, l2⟩ := rdB16 h1
     have hdec := decC_eq h1 e1
     rw [e1]
     refine WL.on rfl rfl (WL.move rfl rfl (WL.on rfl rfl (WL.move rfl rfl (WL.on rfl rfl (WL.len Tryz.underlying84 rfl rfl (WL.on rfl rfl (WL.geq rfl rfl rfl (WL.pickF rfl rfl rfl (WL.moveIf rfl rfl (fun c4 => ?_) (fun c4 => ?_))))))))))
     ·refine WL.off rfl rfl rfl rfl (WL.off rfl rfl rfl rfl (WL.off rfl rfl rfl rfl (WL.off rfl rfl rfl rfl (WL.off rfl rfl rfl rfl (WL.pickT rfl rfl rfl (WL.nil (WX.next (W.sub [(0, _), (4, _), (7, _), (8, _), (9, _), (10, _), (57, _)] (.cons rfl (.cons rfl (.cons rfl (.cons rfl (.cons rfl (.cons rfl (.cons rfl .nil))))))) (W.condT rfl (W.seq (W.region (WL.assign rfl rfl (WL.assign rfl rfl (WL.nil (WX.next (W.sub [(2, _), (3, _)] (.cons rfl (.cons rfl .nil)) (W.ret (WX.thenRet (WX.blockRet (WX.thenRet (WX.thenRet (WX.blockRet (WX.thenRet (WX.ret2 rfl rfl rfl ?_))))))))))))))))))))))))
      exact DecAns.no M (hnone (hbad (by rw [hdec, if_pos (.inl (by omega))])))
     ·refine WL.on rfl rfl (WL.move rfl rfl (WL.on rfl rfl (WL.move rfl rfl (WL.on rfl rfl (WL.idxA Tryz.underlying84 Tryz.sizeOf5 rfl rfl (RdB.isSome (by first | first | with_reducible assumption | with_reducible exact RdB.mem (by with_reducible assumption) M | exact M.rdB Has.a | exact RdH.at (by assumption) (M.sel Sel.a) | exact M.rdLit' Has.a | exact M.rdLent Has.a | exact RdB.nil _ _ | exact RdB.sub (by first | with_reducible assumption | with_reducible exact RdB.mem (by with_reducible assumption) M | exact M.rdB Has.a | exact RdH.at (by assumption) (M.sel Sel.a) | exact M.rdLit' Has.a | exact M.rdLent Has.a | exact RdB.nil _ _) (by omega) (by omega) | exact RdB.pre' (by first | with_reducible assumption | with_reducible exact RdB.mem (by with_reducible assumption) M | exact M.rdB Has.a | exact RdH.at (by assumption) (M.sel Sel.a) | exact M.rdLit' Has.a | exact M.rdLent Has.a | exact RdB.nil _ _) (by omega) | exact RdB.suf (by first | with_reducible assumption | with_reducible exact RdB.mem (by with_reducible assumption) M | exact M.rdB Has.a | exact RdH.at (by assumption) (M.sel Sel.a) | exact M.rdLit' Has.a | exact M.rdLent Has.a | exact RdB.nil _ _) (by omega)) (by omega)) (by omega) (by omega) (by first | exact rfl | exact (Int.toNat_of_nonneg (by omega)).symm) rfl ?_)))))
      refine WL.on rfl rfl (WL.loadB Tryz.isAgg5 rfl (by first | first | with_reducible assumption | with_reducible exact RdB.mem (by with_reducible assumption) M | exact M.rdB Has.a | exact RdH.at (by assumption) (M.sel Sel.a) | exact M.rdLit' Has.a | exact M.rdLent Has.a | exact RdB.nil _ _ | exact RdB.sub (by first | with_reducible assumption | with_reducible exact RdB.mem (by with_reducible assumption) M | exact M.rdB Has.a | exact RdH.at (by assumption) (M.sel Sel.a) | exact M.rdLit' Has.a | exact M.rdLent Has.a | exact RdB.nil _ _) (by omega) (by omega) | exact RdB.pre' (by first | with_reducible assumption | with_reducible exact RdB.mem (by with_reducible assumption) M | exact M.rdB Has.a | exact RdH.at (by assumption) (M.sel Sel.a) | exact M.rdLit' Has.a | exact M.rdLent Has.a | exact RdB.nil _ _) (by omega) | exact RdB.suf (by first | with_reducible assumption | with_reducible exact RdB.mem (by with_reducible assumption) M | exact M.rdB Has.a | exact RdH.at (by assumption) (M.sel Sel.a) | exact M.rdLit' Has.a | exact M.rdLent Has.a | exact RdB.nil _ _) (by omega)) (by omega) rfl ?_)
      refine WL.on rfl rfl (WL.gtr rfl rfl rfl (WL.pickF rfl rfl rfl (WL.nil (WX.next (W.sub [(0, _), (4, _), (7, _), (8, _), (9, _), (10, _), (57, _)] (.cons rfl (.cons rfl (.cons rfl (.cons rfl (.cons rfl (.cons rfl (.cons rfl .nil))))))) (W.ite rfl (fun c5 => ?_) (fun c5 => ?_)))))))
      ·refine W.seq (W.region (WL.assign rfl rfl (WL.assign rfl rfl (WL.nil (WX.next (W.sub [(2, _), (3, _)] (.cons rfl (.cons rfl .nil)) (W.ret (WX.thenRet (WX.blockRet (WX.thenRet (WX.thenRet (WX.blockRet (WX.thenRet (WX.ret2 rfl rfl rfl ?_))))))))))))))
       exact DecAns.no M (hnone (hbad (by rw [hdec, if_pos (.inr (by omega))])))
      ·have hk1 : k1 < b.length := by omega
       have hb1 : (el b k1).toNat ≤ 1 := by omega
       rw [if_neg (by omega)] at hdec
       refine W.skip (WX.next (W.seq (W.drawM ([Asr.own 5 1 A9 (rdB b a 16).1.length c9' (bs (rdB b a 16).1)]) (by kernel_rfl) (fun j => [1, 5, 6, 8].contains j) M Sel.a ?_)))
       clear M; intro M
       apply DG.pure_ [0, 2, 3, 4] 6 rfl (by kernel_rfl) (by kernel_rfl)
       ·intro w
        refine WL.move rfl rfl (WL.move rfl rfl (WL.move rfl rfl (WL.idxA Tryz.underlying84 Tryz.sizeOf5 rfl rfl (RdB.isSome (by first | first | with_reducible assumption | with_reducible exact RdB.mem (by with_reducible assumption) M | exact M.rdB Has.a | exact RdH.at (by assumption) (M.sel Sel.a) | exact M.rdLit' Has.a | exact M.rdLent Has.a | exact RdB.nil _ _ | exact RdB.sub (by first | with_reducible assumption | with_reducible exact RdB.mem (by with_reducible assumption) M | exact M.rdB Has.a | exact RdH.at (by assumption) (M.sel Sel.a) | exact M.rdLit' Has.a | exact M.rdLent Has.a | exact RdB.nil _ _) (by omega) (by omega) | exact RdB.pre' (by first | with_reducible assumption | with_reducible exact RdB.mem (by with_reducible assumption) M | exact M.rdB Has.a | exact RdH.at (by assumption) (M.sel Sel.a) | exact M.rdLit' Has.a | exact M.rdLent Has.a | exact RdB.nil _ _) (by omega) | exact RdB.suf (by first | with_reducible assumption | with_reducible exact RdB.mem (by with_reducible assumption) M | exact M.rdB Has.a | exact RdH.at (by assumption) (M.sel Sel.a) | exact M.rdLit' Has.a | exact M.rdLent Has.a | exact RdB.nil _ _) (by omega)) (by omega)) (by omega) (by omega) (by first | exact rfl | exact (Int.toNat_of_nonneg (by omega)).symm) rfl ?_)))
        exact Chain.end_ rfl
       apply DG.take [1, 5, 6, 7] 2 rfl (by kernel_rfl) (by kernel_rfl) (M.sel Sel.a)
       ·intro w M
        refine WL.toStr Tryz.underlying84 Tryz.underlying5 Tryz.underlying9 rfl (by first | first | with_reducible assumption | with_reducible exact RdB.mem (by with_reducible assumption) M | exact M.rdB Has.a | exact RdH.at (by assumption) (M.sel Sel.a) | exact M.rdLit' Has.a | exact M.rdLent Has.a | exact RdB.nil _ _ | exact RdB.sub (by first | with_reducible assumption | with_reducible exact RdB.mem (by with_reducible assumption) M | exact M.rdB Has.a | exact RdH.at (by assumption) (M.sel Sel.a) | exact M.rdLit' Has.a | exact M.rdLent Has.a | exact RdB.nil _ _) (by omega) (by omega) | exact RdB.pre' (by first | with_reducible assumption | with_reducible exact RdB.mem (by with_reducible assumption) M | exact M.rdB Has.a | exact RdH.at (by assumption) (M.sel Sel.a) | exact M.rdLit' Has.a | exact M.rdLent Has.a | exact RdB.nil _ _) (by omega) | exact RdB.suf (by first | with_reducible assumption | with_reducible exact RdB.mem (by with_reducible assumption) M | exact M.rdB Has.a | exact RdH.at (by assumption) (M.sel Sel.a) | exact M.rdLit' Has.a | exact M.rdLent Has.a | exact RdB.nil _ _) (by omega)) rfl rfl ?_
        refine WL.loadB Tryz.isAgg5 rfl (by first | first | with_reducible assumption | with_reducible exact RdB.mem (by with_reducible assumption) M | exact M.rdB Has.a | exact RdH.at (by assumption) (M.sel Sel.a) | exact M.rdLit' Has.a | exact M.rdLent Has.a | exact RdB.nil _ _ | exact RdB.sub (by first | with_reducible assumption | with_reducible exact RdB.mem (by with_reducible assumption) M | exact M.rdB Has.a | exact RdH.at (by assumption) (M.sel Sel.a) | exact M.rdLit' Has.a | exact M.rdLent Has.a | exact RdB.nil _ _) (by omega) (by omega) | exact RdB.pre' (by first | with_reducible assumption | with_reducible exact RdB.mem (by with_reducible assumption) M | exact M.rdB Has.a | exact RdH.at (by assumption) (M.sel Sel.a) | exact M.rdLit' Has.a | exact M.rdLent Has.a | exact RdB.nil _ _) (by omega) | exact RdB.suf (by first | with_reducible assumption | with_reducible exact RdB.mem (by with_reducible assumption) M | exact M.rdB Has.a | exact RdH.at (by assumption) (M.sel Sel.a) | exact M.rdLit' Has.a | exact M.rdLent Has.a | exact RdB.nil _ _) (by omega)) (by omega) rfl ?_
        refine WL.eqI rfl rfl rfl (WL.buildP (places := #[(0, 1), (1, 1), (2, 1)]) Tryz.underlying63 Tryz.zeroValue63 (fun _ => by simp [Tryz.sizeOf9, Tryz.sizeOf9, Tryz.sizeOf4]) rfl (by repeat (first | exact Puts.nil | exact SetAt.zero | apply SetAt.succ | apply Puts.cons rfl rfl)) rfl ?_)
        exact Chain.end_ rfl
       refine DG.step 8 1 rfl (by kernel_rfl) ?_
       refine WL.alloc Tryz.zeroValue63 M rfl ?_
       intro g11_8 w M
       try simp only [Value.cells] at M
       try simp only [List.toList_toArray] at M
       refine DG.go (G := fun j => [1, 5, 6, 8].contains j) (i := 8) (f' := 1) (done := [0, 2, 3, 4, 1, 5, 6, 7]) (fun _ => M.sel Sel.a) ?_
       refine DG.step 9 0 rfl (by kernel_rfl) ?_
       refine WL.storeWA Tryz.sizeOf63 rfl rfl (by repeat (first | exact oneNil | refine oneCons rfl ?_)) rfl rfl M Upd.a ?_
       intro w M
       refine DG.go (G := fun j => [1, 5, 6, 8].contains j) (i := 9) (f' := 0) (done := [0, 2, 3, 4, 1, 5, 6, 7, 8]) (fun h => by cases h) ?_
       refine DG.end_ (by kernel_rfl) ?_
       refine WX.next (W.sub [(0, _), (4, _), (7, _), (8, _), (10, _), (12, _)] (.cons rfl (.cons rfl (.cons rfl (.cons rfl (.cons rfl (.cons rfl .nil)))))) (W.seq (W.region (WL.move rfl rfl (WL.add rfl rfl (by first | exact wI64 (by omega) | rfl) rfl ?_)))))
       refine WL.assign rfl rfl (WL.nil (WX.next (W.sub [(0, _), (4, _), (5, _), (7, _), (8, _), (12, _)] (.cons rfl (.cons rfl (.cons rfl (.cons rfl (.cons rfl (.cons rfl .nil)))))) (W.seq (W.seq (W.region (WL.fieldR (off := 2) Tryz.underlying63 rfl rfl Tryz.sizeOf4 rfl rfl rfl ?_)))))))
       refine WL.loadR Tryz.isAgg4 rfl M Has.a rfl rfl (WL.not rfl rfl (WL.nil (WX.next (W.sub [(0, _), (4, _), (5, _), (7, _), (8, _), (12, _), (70, _)] (.cons rfl (.cons rfl (.cons rfl (.cons rfl (.cons rfl (.cons rfl (.cons rfl .nil))))))) (W.cond rfl (fun c6 => ?_) (fun c6 => ?_))))))
       ·(try simp only [Bool.not_eq_true'] at c6); (try simp only [Bool.not_eq_false'] at c6); (try simp only [decide_eq_true_eq] at c6); (try simp only [decide_eq_false_iff_not] at c6)
        have hf0 : ¬ (el b k1).toNat = 1 := fun h9 => by simp [h9] at c6
        rw [if_neg hf0] at hdec
        refine W.seq (W.region (WL.move rfl rfl (WL.move rfl rfl (WL.call Tryz.call64 rfl (refBytes_ok b A cap ((k1 + 1 : Nat) : Int) 128 _ (h.mem M) (by omega) (by omega) (by omega)) rfl ?_))))
        rintro _ w ⟨A13, c13', rfl, m⟩
        replace M := M.call1 m; clear m
        refine WL.move rfl rfl (WL.extractL rfl rfl rfl (WL.extractL rfl rfl rfl (WL.extractL rfl rfl rfl (WL.assign rfl rfl (WL.assign rfl rfl (WL.assign rfl rfl (WL.nil (WX.next (W.sub [(0, _), (4, _), (7, _), (8, _), (12, _), (13, _), (14, _), (15, _)] (.cons rfl (.cons rfl (.cons rfl (.cons rfl (.cons rfl (.cons rfl (.cons rfl (.cons rfl .nil)))))))) (W.seq (W.seq (W.region (WL.move rfl rfl (WL.neI rfl rfl rfl (WL.nil (WX.next (W.sub [(0, _), (4, _), (7, _), (8, _), (12, _), (13, _), (14, _), (79, _)] (.cons rfl (.cons rfl (.cons rfl (.cons rfl (.cons rfl (.cons rfl (.cons rfl (.cons rfl .nil)))))))) (W.ite rfl (fun c7 => ?_) (fun c7 => ?_)))))))))))))))))))
        ·refine W.seq (W.region (WL.assign rfl rfl (WL.assign rfl rfl (WL.nil (WX.next (W.sub [(2, _), (3, _)] (.cons rfl (.cons rfl .nil)) (W.ret (WX.thenRet (WX.thenRet (WX.blockRet (WX.thenRet (WX.thenRet (WX.blockRet (WX.thenRet (WX.ret2 rfl rfl rfl ?_)))))))))))))))
         exact DecAns.no M (hnone (hbad (by rw [hdec, if_pos c7])))
        ·have h2 : (rdB b ((k1 + 1 : Nat) : Int) 128).2.2 = 0 := by omega
         obtain ⟨k2, e2, l3, l4⟩ := rdB128 h2
         rw [if_neg (by omega), e2, Int.toNat_natCast] at hdec
         rw [e2]
         obtain ⟨vv, hvv9⟩ : ∃ vv, vv = (rdB b ((k1 + 1 : Nat) : Int) 128).1 := ⟨_, rfl⟩
         rw [← hvv9] at hdec M ⊢
         obtain ⟨ff, hff9⟩ : ∃ ff : Bool, ff = false := ⟨_, rfl⟩
         refine W.skip (WX.next (W.seq (W.region (WL.move rfl rfl (WL.toStr Tryz.underlying84 Tryz.underlying5 Tryz.underlying9 rfl (by first | first | with_reducible assumption | with_reducible exact RdB.mem (by with_reducible assumption) M | exact M.rdB Has.a | exact RdH.at (by assumption) (M.sel Sel.a) | exact M.rdLit' Has.a | exact M.rdLent Has.a | exact RdB.nil _ _ | exact RdB.sub (by first | with_reducible assumption | with_reducible exact RdB.mem (by with_reducible assumption) M | exact M.rdB Has.a | exact RdH.at (by assumption) (M.sel Sel.a) | exact M.rdLit' Has.a | exact M.rdLent Has.a | exact RdB.nil _ _) (by omega) (by omega) | exact RdB.pre' (by first | with_reducible assumption | with_reducible exact RdB.mem (by with_reducible assumption) M | exact M.rdB Has.a | exact RdH.at (by assumption) (M.sel Sel.a) | exact M.rdLit' Has.a | exact M.rdLent Has.a | exact RdB.nil _ _) (by omega) | exact RdB.suf (by first | with_reducible assumption | with_reducible exact RdB.mem (by with_reducible assumption) M | exact M.rdB Has.a | exact RdH.at (by assumption) (M.sel Sel.a) | exact M.rdLit' Has.a | exact M.rdLent Has.a | exact RdB.nil _ _) (by omega)) rfl rfl ?_)))))
         refine WL.fieldR (off := 1) Tryz.underlying63 rfl rfl Tryz.sizeOf9 rfl rfl rfl ?_
         refine WL.storeR Tryz.sizeOf9 rfl rfl rfl M Has.a (by repeat (first | exact SetAt.zero | apply SetAt.succ)) Upd.a ?_
         intro w M
         refine WL.nil (WX.next (W.sub [(0, _), (4, _), (7, _), (8, _), (12, _), (14, _)] (.cons rfl (.cons rfl (.cons rfl (.cons rfl (.cons rfl (.cons rfl .nil)))))) (W.region (WL.move rfl rfl (WL.assign rfl rfl (WL.nil (WX.next (W.sub [(0, _), (4, _), (5, _), (7, _), (8, _), (12, _)] (.cons rfl (.cons rfl (.cons rfl (.cons rfl (.cons rfl (.cons rfl .nil)))))) (W.region (WL.move rfl rfl (WL.loadW Tryz.isAgg63 Tryz.sizeOf63 rfl M Has.a rfl rfl (WL.buildL (E := cgE) (l := [(⟨(rdB b a 16).1, vv, decide (((el b k1).toNat : Int) = 1)⟩ : Cg)]) Tryz.elem63 M rfl rfl rfl rfl rfl rfl ?_))))))))))))
         intro g19_2 w M
         refine WL.appendL (E := cgE) Tryz.elem63 rfl rfl M Del.a (by first | with_reducible assumption | with_reducible exact RdL.mem (by with_reducible assumption) M | exact M.rdL Has.a | exact RdLH.at (by assumption) (M.sel Sel.a) | exact RdL.nil _ _ _) rfl rfl (by first | omega | (simp; done) | (simp; omega)) (by first | (simp only [maxLen]; omega) | (simp [maxLen]; done) | (simp [maxLen]; omega)) rfl ?_
         intro A19_3 cap19_3 w M
         refine WL.assign rfl rfl (WL.nil (WX.blockNormal (WX.next (W.sub [(0, _), (4, _), (5, _), (7, _), (8, _)] (.cons rfl (.cons rfl (.cons rfl (.cons rfl (.cons rfl .nil))))) (W.region (WL.move rfl rfl (WL.add rfl rfl (by first | exact wI64 (by omega) | rfl) rfl ?_)))))))
         refine WL.assign rfl rfl (WL.nil ?_)
         skip
         have hfd : decide (((el b k1).toNat : Int) = 1) = false := decide_eq_false (by omega)
         have q4 : remD b (l ++ [(⟨(rdB b a 16).1, vv, decide (((el b k1).toNat : Int) = 1)⟩ : Cg)]) (n - (i + 1)) k2 = T := by rw [← hrem, remD_step hdec, hfd]
         refine WX.round ((i + 1, k2, A19_3, cap19_3, l ++ [(⟨(rdB b a 16).1, vv, decide (((el b k1).toNat : Int) = 1)⟩ : Cg)])) envSub.sf ⟨M.sel Sel.a, ⟨⟨by dsimp only; omega, l4, by dsimp only; rw [List.length_append, hll]; rfl⟩, q4⟩⟩ (by first | omega | (dsimp only; omega))
       ·(try simp only [Bool.not_eq_true'] at c6); (try simp only [Bool.not_eq_false'] at c6); (try simp only [decide_eq_true_eq] at c6); (try simp only [decide_eq_false_iff_not] at c6)
        have hf1 : (el b k1).toNat = 1 := by
         rcases Nat.lt_or_ge (el b k1).toNat 1 with h9 | h9
         ·exfalso; have : (el b k1).toNat = 0 := by omega
          simp [this] at c6
         ·omega
        rw [if_pos hf1] at hdec
        obtain ⟨vv, hvv9⟩ : ∃ vv : List UInt8, vv = [] := ⟨_, rfl⟩
        rw [← hvv9] at hdec
        have hs9 : Value.string (ByteArray.mk #[]) = str vv := by rw [hvv9]; rfl
        rw [hs9] at M
        refine W.skip (WX.next (W.region (WL.move rfl rfl (WL.loadW Tryz.isAgg63 Tryz.sizeOf63 rfl M Has.a rfl rfl (WL.buildL (E := cgE) (l := [(⟨(rdB b a 16).1, vv, decide (((el b k1).toNat : Int) = 1)⟩ : Cg)]) Tryz.elem63 M rfl rfl rfl rfl rfl rfl ?_)))))
        intro g19_2 w M
        refine WL.appendL (E := cgE) Tryz.elem63 rfl rfl M Del.a (by first | with_reducible assumption | with_reducible exact RdL.mem (by with_reducible assumption) M | exact M.rdL Has.a | exact RdLH.at (by assumption) (M.sel Sel.a) | exact RdL.nil _ _ _) rfl rfl (by first | omega | (simp; done) | (simp; omega)) (by first | (simp only [maxLen]; omega) | (simp [maxLen]; done) | (simp [maxLen]; omega)) rfl ?_
        intro A19_3 cap19_3 w M
        refine WL.assign rfl rfl (WL.nil (WX.blockNormal (WX.next (W.sub [(0, _), (4, _), (5, _), (7, _), (8, _)] (.cons rfl (.cons rfl (.cons rfl (.cons rfl (.cons rfl .nil))))) (W.region (WL.move rfl rfl (WL.add rfl rfl (by first | exact wI64 (by omega) | rfl) rfl ?_)))))))
        refine WL.assign rfl rfl (WL.nil ?_)
        skip
        have hfd : decide (((el b k1).toNat : Int) = 1) = true := decide_eq_true (by omega)
        have q4 : remD b (l ++ [(⟨(rdB b a 16).1, vv, decide (((el b k1).toNat : Int) = 1)⟩ : Cg)]) (n - (i + 1)) (k1 + 1) = T := by rw [← hrem, remD_step hdec, hfd]
        refine WX.round ((i + 1, k1 + 1, A19_3, cap19_3, l ++ [(⟨(rdB b a 16).1, vv, decide (((el b k1).toNat : Int) = 1)⟩ : Cg)])) envSub.sf ⟨M.sel Sel.a, ⟨⟨by dsimp only; omega, by dsimp only; omega, by dsimp only; rw [List.length_append, hll]; rfl⟩, q4⟩⟩ (by first | omega | (dsimp only; omega))
   ·obtain rfl : i = n := by omega
    rw [Nat.sub_self, remD_0] at hrem
    have hDB := hsome l a hrem.symm
    refine W.exit (WX.thenExit (WX.thenExit (WX.blockHere (WX.next (W.seq (W.region (WL.move rfl rfl (WL.call Tryz.call65 rfl (refEncode_ok (M.rdL Has.a)) rfl ?_))))))))
    rintro _ w ⟨A16, c16, rfl, m⟩
    replace M := M.call1 m; clear m
    refine WL.move rfl rfl (WL.extractL rfl rfl rfl (WL.extractL rfl rfl rfl (WL.assign rfl rfl (WL.assign rfl rfl (WL.nil (WX.next (W.sub [(0, _), (7, _), (16, _), (17, _)] (.cons rfl (.cons rfl (.cons rfl (.cons rfl .nil)))) (W.seq (W.seq (W.region (WL.move rfl rfl (WL.neI rfl rfl rfl (WL.moveIf rfl rfl (fun c8 => ?_) (fun c8 => ?_))))))))))))))
    ·refine WL.off rfl rfl rfl rfl (WL.off rfl rfl rfl rfl (WL.off rfl rfl rfl rfl (WL.off rfl rfl rfl rfl (WL.off rfl rfl rfl rfl (WL.pickT rfl rfl rfl (WL.nil (WX.next (W.sub [(7, _), (101, _)] (.cons rfl (.cons rfl .nil)) (W.condT rfl (W.seq (W.region (WL.assign rfl rfl (WL.assign rfl rfl (WL.nil (WX.next (W.sub [(2, _), (3, _)] (.cons rfl (.cons rfl .nil)) (W.ret (WX.thenRet (WX.ret2 rfl rfl rfl ?_)))))))))))))))))))
     exact DecAns.no M (by rw [hDB, if_neg (fun h9 => by have := h9.1; omega)])
    ·refine WL.on rfl rfl (WL.move rfl rfl (WL.on rfl rfl (WL.toStr Tryz.underlying84 Tryz.underlying5 Tryz.underlying9 rfl (M.rdB (A := A16) (l := encV l) (cap := c16) Has.a) rfl rfl ?_)))
     refine WL.on rfl rfl (WL.move rfl rfl (WL.on rfl rfl (WL.toStr Tryz.underlying84 Tryz.underlying5 Tryz.underlying9 rfl (h.mem M) rfl rfl (WL.on rfl rfl (WL.neS rfl rfl rfl (WL.pickF rfl rfl rfl (WL.nil (WX.next (W.sub [(7, _), (101, _)] (.cons rfl (.cons rfl .nil)) (W.ite rfl (fun c9 => ?_) (fun c9 => ?_)))))))))))
     ·refine W.seq (W.region (WL.assign rfl rfl (WL.assign rfl rfl (WL.nil (WX.next (W.sub [(2, _), (3, _)] (.cons rfl (.cons rfl .nil)) (W.ret (WX.thenRet (WX.ret2 rfl rfl rfl ?_)))))))))
      exact DecAns.no M (by rw [hDB, if_neg (fun h9 => c9 h9.2)])
     ·refine W.skip (WX.next (W.seq (W.region (WL.move rfl rfl (WL.assign rfl rfl (WL.assign rfl rfl (WL.nil (WX.next (W.sub [(2, _), (3, _)] (.cons rfl (.cons rfl .nil)) (W.ret (WX.ret2 rfl rfl rfl ?_)))))))))))
      have hfin : decB b = some l := by
       rw [hDB, if_pos ⟨by omega, by simpa using c9⟩]
      exact DecAns.yes (M.sel Sel.a) hfin
end
end Go.Proofs.YtlminileigfkcaaGreat
namespace Go.Proofs.YtlminileigfkcaaGreat
open Go Go.RowKit Go.Lib Crc Bin
theorem openW_up {d : Dk} (h : d.up) : (openW d).2.2.up := (wipeD_up (h := halfD d) (base := baseO d) (e := (scanO d).2) (b := bytesO d) h).2
set_option maxHeartbeats 2000000 in
set_option maxRecDepth 10000 in
theorem stOpen_ok (k : DkX) (hok : k.d.ok) (hup : k.d.up) (h6 : 6 ≤ k.d.safe.length) (hwa : k.d.waits.length ≤ 90000) (w0 w : World) (L L' : List Asr) (M : Mem w0 w L) (hd : Del k.O L L') :
 Fn Tryz.prog 7 [.pointer (some ⟨k.g, 0, none⟩)] w fun v w' => ∃ k' : DkX, k'.g = k.g ∧ k'.d = (openW k.d).2.2 ∧ k'.d.ok ∧ k'.d.safe.length = k.d.safe.length ∧ k'.d.waits.length ≤ k.d.waits.length + 1100 ∧
  ((loadL (openW k.d).2.1.l [] = none ∧ v = .tuple #[.pointer none, .int .i64 50] ∧ Mem w0 w' (k'.O :: L')) ∨
   (∃ x : SaX, loadL (openW k.d).2.1.l [] = some x.l ∧ v = .tuple #[.pointer (some ⟨x.g, 0, none⟩), .int .i64 0] ∧ x.wx.gd = k.g ∧ x.wx.h = halfD k.d ∧ x.wx.s = (openW k.d).2.1 ∧ x.dead = false ∧ x.ok ∧ Mem w0 w' (x.O :: k'.O :: L'))) := by
 obtain ⟨T, hT⟩ : ∃ T, T = loadL (openW k.d).2.1.l [] := ⟨_, rfl⟩
 rw [← hT]
 refine Fn.enter Tryz.func7 rfl Tryz.ntmps7 rfl (W.sub [(0, _)] (.cons rfl .nil) (W.seq (W.region (WL.assign rfl rfl (WL.assign rfl rfl (WL.nil (WX.next (W.sub [(0, _)] (.cons rfl .nil) (W.seq (W.region (WL.move rfl rfl (WL.call Tryz.call23 rfl (walOpen_ok k hok hup h6 hwa w0 w _ _ M hd) rfl ?_))))))))))))
 rintro _ w ⟨wx, k2, rfl, a1, a2, a3, a4, a5, a6, a7, a8, a9, M⟩
 refine WL.move rfl rfl (WL.extractL rfl rfl rfl (WL.extractL rfl rfl rfl (WL.assign rfl rfl (WL.assign rfl rfl (WL.nil (WX.next (W.sub [(4, _), (5, _)] (.cons rfl (.cons rfl .nil)) (W.seq (W.seq (W.region (WL.move rfl rfl (WL.neI rfl rfl rfl (WL.nil (WX.next (W.sub [(4, _), (5, _), (17, _)] (.cons rfl (.cons rfl (.cons rfl .nil))) (W.ite rfl (fun c0 => ?_) (fun c0 => ?_)))))))))))))))))
 ·exact absurd rfl c0
 ·refine W.skip (WX.next (W.seq (W.region (WL.move rfl rfl (WL.makeMap strV M rfl ?_)))))
  intro gm w M
  refine WL.buildP (places := #[(0, 1), (1, 1), (2, 1)]) Tryz.underlying81 Tryz.zeroValue81 (fun _ => by simp [Tryz.sizeOf76, Tryz.sizeOf79, Tryz.sizeOf4]) rfl (by repeat (first | exact Puts.nil | exact SetAt.zero | apply SetAt.succ | apply Puts.cons rfl rfl)) rfl ?_
  refine WL.box rfl M rfl ?_
  intro g4_3 w M
  try simp only [Value.cells] at M
  try simp only [List.toList_toArray] at M
  refine WL.assign rfl rfl (WL.nil (WX.next (W.sub [(4, _), (6, _)] (.cons rfl (.cons rfl .nil)) (W.seq (W.seq (W.region (WL.move rfl rfl ?_)))))))
  refine WL.call Tryz.call24 rfl (walRecords_ok wx k2 a4 (by rw [a1, a5]) (by rw [a3]; rfl) (by rw [a6]; exact (openW_up hup).2) w0 w _ _ _ M Del.a Del.a) rfl ?_
  rintro _ w ⟨A5, c5, ys, rfl, hys, M⟩
  rw [a3] at hys
  have hyl : ys.length = (openW k.d).2.1.l.length := by rw [← hys, List.length_map]
  have hysh : ∀ i, i < ys.length → (el ys i).l.length ≤ 1024 := fun i hi => by have h9 := a4.1.short; rw [a3] at h9; exact h9 _ (by rw [← hys]; exact List.mem_map.2 ⟨_, el_mem hi, rfl⟩)
  have hyfew : ys.length ≤ 10000 := by have h9 := framesB_few wx.s.l a4.1.short; have h8 := a4.1.fits; have h7 := a4.1.hi; unfold usedW at h8; rw [a3] at h9 h8; omega
  refine WL.len Tryz.underlying82 rfl rfl (WL.move rfl rfl (WL.nil (WX.next (W.sub [(6, _), (24, _), (25, _), (26, _)] (.cons rfl (.cons rfl (.cons rfl (.cons rfl .nil)))) (W.block ?_)))))
  refine W.loop (ι := Nat × List Pr × List Pr) (fun z => [(6, .pointer (some ⟨g4_3, 0, none⟩)), (24, .slice A5 ys.length c5), (25, .int .i64 (ys.length : Int)), (26, .int .i64 (z.1 : Int))]) (fun zz w => Mem w0 w ((fun z => Asr.mp strV gm z.2.1 :: saRow g4_3 wx.g gm false :: Asr.lst oxE A5 c5 ys :: Asr.star (ys.map OX.O) :: wx.O :: k2.O :: L') zz) ∧ (fun z => z.1 ≤ ys.length ∧ z.2.1.Perm z.2.2 ∧ SP z.2.2 ∧ loadL ((ys.map OX.l).drop z.1) z.2.2 = T) zz) (fun z => ys.length - z.1) ((0, [], [])) envSub.sf ⟨M.sel Sel.a, ⟨Nat.zero_le _, List.Perm.refl _, List.Pairwise.nil, by dsimp only; rw [List.drop_zero, hys, hT]⟩⟩ ?_
  clear M; rintro (⟨i, ms, l⟩) w ⟨M, ⟨hi, hp, hs, hload⟩⟩; dsimp only at M hi hp hs hload ⊢
  refine W.sub [(6, _), (24, _), (25, _), (26, _)] (.cons rfl (.cons rfl (.cons rfl (.cons rfl .nil)))) (W.seq (W.region (WL.lss rfl rfl rfl (WL.nil (WX.next (W.sub [(6, _), (24, _), (25, _), (26, _), (27, _)] (.cons rfl (.cons rfl (.cons rfl (.cons rfl (.cons rfl .nil))))) (W.seq (W.ite rfl (fun c1 => ?_) (fun c1 => ?_)))))))))
  ·have hil : i < ys.length := by omega
   have h24 := hysh i hil
   have hdr : (ys.map OX.l).drop i = (el ys i).l :: (ys.map OX.l).drop (i + 1) := by
    rw [List.drop_eq_getElem_cons (by rw [List.length_map]; exact hil)]
    simp [el, hil]
   rw [hdr, loadL] at hload
   obtain ⟨D8, hD8⟩ : ∃ D8, D8 = decB (el ys i).l := ⟨_, rfl⟩
   rw [← hD8] at hload
   refine W.skip (WX.next (W.seq (W.block (W.seq (W.region (WL.idxA Tryz.underlying82 Tryz.sizeOf84 rfl rfl (RdL.isSome (E := oxE) (by first | with_reducible assumption | with_reducible exact RdL.mem (by with_reducible assumption) M | exact M.rdL Has.a | exact RdLH.at (by assumption) (M.sel Sel.a) | exact RdL.nil _ _ _) (by omega)) (by omega) (by omega) (by first | exact rfl | exact (Int.toNat_of_nonneg (by omega)).symm) rfl ?_))))))
   refine WL.loadE0 (E := oxE) Tryz.isAgg84 rfl (by first | with_reducible assumption | with_reducible exact RdL.mem (by with_reducible assumption) M | exact M.rdL Has.a | exact RdLH.at (by assumption) (M.sel Sel.a) | exact RdL.nil _ _ _) (by omega) rfl rfl ?_
   refine WL.assign rfl rfl (WL.nil (WX.next (W.sub [(6, _), (8, _), (24, _), (25, _), (26, _)] (.cons rfl (.cons rfl (.cons rfl (.cons rfl (.cons rfl .nil))))) (W.seq (W.region (WL.move rfl rfl (WL.call Tryz.call25 rfl (stDecode_ok (b := (el ys i).l) (ownRd (M.starHas (f := OX.O) Has.a (el_mem hil))) (by omega)) rfl ?_)))))))
   rintro _ w ⟨A9, c9, rfl, m⟩
   replace M := M.call1 m; clear m
   rw [← hD8] at M ⊢
   refine WL.move rfl rfl (WL.extractL rfl rfl rfl (WL.extractL rfl rfl rfl (WL.assign rfl rfl (WL.assign rfl rfl (WL.nil (WX.next (W.sub [(6, _), (9, _), (10, _), (24, _), (25, _), (26, _)] (.cons rfl (.cons rfl (.cons rfl (.cons rfl (.cons rfl (.cons rfl .nil)))))) (W.seq (W.seq (W.region (WL.move rfl rfl (WL.neI rfl rfl rfl (WL.nil (WX.next (W.sub [(6, _), (9, _), (10, _), (24, _), (25, _), (26, _), (36, _)] (.cons rfl (.cons rfl (.cons rfl (.cons rfl (.cons rfl (.cons rfl (.cons rfl .nil))))))) (W.ite rfl (fun c2 => ?_) (fun c2 => ?_)))))))))))))))))
   ·have hDn : D8 = none := by
     cases hh : D8 with
     | none => rfl
     | some c => rw [hh] at c2; exact absurd rfl c2
    refine W.seq (W.region (WL.move rfl rfl (WL.assign rfl rfl (WL.assign rfl rfl (WL.nil (WX.next (W.sub [(2, _), (3, _)] (.cons rfl (.cons rfl .nil)) (W.ret (WX.thenRet (WX.blockRet (WX.thenRet (WX.thenRet (WX.blockRet (WX.thenRet (WX.ret2 rfl rfl rfl ?_)))))))))))))))
    rw [hDn] at hload ⊢
    exact ⟨k2, a5, a6, a7, a8, a9, .inl ⟨hload.symm, rfl, M.sel Sel.a⟩⟩
   ·obtain ⟨c, hDc⟩ : ∃ c, D8 = some c := by
     cases hh : D8 with
     | none => rw [hh] at c2; exact absurd (by decide) c2
     | some c => exact ⟨c, rfl⟩
    have hDB : decB (el ys i).l = some c := by rw [← hD8, hDc]
    have hc32 := (decB_right hDB).1
    rw [hDc] at hload M ⊢
    dsimp only [Option.getD] at hload M ⊢
    refine W.skip (WX.next (W.region (WL.move rfl rfl (WL.move rfl rfl ?_))))
    refine WL.call Tryz.call26 rfl (stLay_ok w0 w _ _ (by omega) (by exact Has.here) (by rfl) (M.sel (K := Asr.mp strV gm ms :: saRow g4_3 wx.g gm false :: Asr.lst oxE A5 c5 ys :: Asr.star (ys.map OX.O) :: wx.O :: k2.O :: Asr.lst cgE A9 c9 c :: L') Sel.a) .here (by intro w M; exact M.rdL Has.a)) rfl ?_
    rintro _ w M
    refine WL.nil (WX.blockNormal (WX.next (W.sub [(6, _), (24, _), (25, _), (26, _)] (.cons rfl (.cons rfl (.cons rfl (.cons rfl .nil)))) (W.region (WL.add rfl rfl (by first | exact wI64 (by omega) | rfl) rfl ?_)))))
    refine WL.move rfl rfl (WL.nil ?_)
    refine WX.round ((i + 1, mapL ms c, layL l c)) envSub.sf ⟨M.sel Sel.a, ⟨by dsimp only; omega, mapL_perm c hp hs, layL_SP c hs, hload⟩⟩ (by first | omega | (dsimp only; omega))
  ·obtain rfl : i = ys.length := by omega
   rw [List.drop_eq_nil_of_le (by rw [List.length_map]; omega), loadL] at hload
   refine W.exit (WX.thenExit (WX.thenExit (WX.blockHere (WX.next (W.seq (W.region (WL.move rfl rfl (WL.assign rfl rfl (WL.assign rfl rfl (WL.nil (WX.next (W.sub [(2, _), (3, _)] (.cons rfl (.cons rfl .nil)) (W.ret (WX.ret2 rfl rfl rfl ?_))))))))))))))
   have M4 : Mem w0 w (saRow g4_3 wx.g gm false :: Asr.mp strV gm ms :: wx.O :: k2.O :: L') := M.sel Sel.a
   exact ⟨k2, a5, a6, a7, a8, a9, .inr ⟨⟨g4_3, gm, wx, ms, l, false⟩, hload.symm, rfl, a1, a2, a3, rfl, ⟨a4, hp, hs⟩, Mem.star3 M4⟩⟩
end Go.Proofs.YtlminileigfkcaaGreat
namespace Go.Proofs.YtlminileigfkcaaGreat
open Go Go.RowKit Go.Lib Crc Bin
section
variable (w0 w : World) (L L' L1 L2 : List Asr)
set_option maxHeartbeats 4000000 in
set_option maxRecDepth 10000 in
theorem rsDo_ok (x : SbX) (k : RdX) (hx : x.ok (halfD k.d)) (hk : k.d.ok) (hgd : x.wx.gd = k.g) (h6 : 6 ≤ k.d.safe.length) (hwa : k.d.waits.length ≤ 80000) (hdd : x.dead = false) (c : List Cg) (A : Option Addr) (cap : Nat) (hl12 : x.l.length ≤ 12) (M : Mem w0 w L) (hd1 : Del x.O L L1) (hd2 : Del k.O L1 L2) (hr : RdLH w0 L2 cgE A cap c) :
 Fn Tryz.prog 35 [.pointer (some ⟨x.g, 0, none⟩), .slice A c.length cap] w fun v w' => v = .int .i64 ((doS (halfD k.d) x.s k.d c).1 : Int) ∧ ∃ (x' : SbX) (k' : RdX), x'.g = x.g ∧ x'.wx.gd = x.wx.gd ∧ x'.s = (doS (halfD k.d) x.s k.d c).2.1 ∧ x'.ok (halfD k.d) ∧ k'.g = k.g ∧ k'.d = (doS (halfD k.d) x.s k.d c).2.2 ∧ k'.d.ok ∧ k'.d.safe.length = k.d.safe.length ∧ k'.d.waits.length ≤ k.d.waits.length + 3500 ∧
  Mem w0 w' (x'.O :: k'.O :: L2) := by
 have M1 := ((M.del hd1).perm (List.Perm.cons _ hd2.perm)).unstar3
 clear M
 have M := M1
 obtain ⟨hw, hs⟩ := hx
 obtain ⟨g, wx, Al, cl, l, dead⟩ := x
 dsimp only at *
 subst hdd
 have hs9 : SbX.s ⟨g, wx, Al, cl, l, false⟩ = ⟨wx.s, l, false⟩ := rfl
 rw [hs9]
 obtain ⟨h, hh⟩ : ∃ h, h = halfD k.d := ⟨_, rfl⟩
 rw [← hh] at hw ⊢
 refine Fn.enter Tryz.func35 rfl Tryz.ntmps35 rfl (W.sub [(0, _), (1, _)] (.cons rfl (.cons rfl .nil)) (W.seq (W.region (WL.assign rfl rfl (WL.nil (WX.next (W.sub [(0, _), (1, _)] (.cons rfl (.cons rfl .nil)) (W.seq (W.seq (W.region (WL.move rfl rfl (WL.nilCheck rfl rfl (WL.fieldR (off := 2) Tryz.underlying55 rfl rfl Tryz.sizeOf4 rfl rfl rfl ?_)))))))))))))
 refine WL.loadR Tryz.isAgg4 rfl M Has.a rfl rfl (WL.nil (WX.next (W.sub [(0, _), (1, _), (10, _)] (.cons rfl (.cons rfl (.cons rfl .nil))) (W.cond rfl (fun c0 => ?_) (fun c0 => ?_)))))
 ·(try simp only [Bool.not_eq_true'] at c0); (try simp only [Bool.not_eq_false'] at c0); (try simp only [decide_eq_true_eq] at c0); (try simp only [decide_eq_false_iff_not] at c0)
  exact absurd c0 (by simp)
 ·(try simp only [Bool.not_eq_true'] at c0); (try simp only [Bool.not_eq_false'] at c0); (try simp only [decide_eq_true_eq] at c0); (try simp only [decide_eq_false_iff_not] at c0)
  refine W.skip (WX.next (W.seq (W.region (WL.move rfl rfl (WL.call Tryz.call65 rfl (refEncode_ok (hr.at (M.sel Sel.a))) rfl ?_)))))
  rintro _ w ⟨A6, c6, rfl, m⟩
  replace M := M.call1 m; clear m
  refine WL.move rfl rfl (WL.extractL rfl rfl rfl (WL.extractL rfl rfl rfl (WL.assign rfl rfl (WL.assign rfl rfl (WL.nil (WX.next (W.sub [(0, _), (1, _), (5, _), (6, _)] (.cons rfl (.cons rfl (.cons rfl (.cons rfl .nil)))) (W.seq (W.seq (W.region (WL.move rfl rfl (WL.neI rfl rfl rfl (WL.nil (WX.next (W.sub [(0, _), (1, _), (5, _), (6, _), (17, _)] (.cons rfl (.cons rfl (.cons rfl (.cons rfl (.cons rfl .nil))))) (W.ite rfl (fun c1 => ?_) (fun c1 => ?_)))))))))))))))))
  ·refine W.seq (W.region (WL.move rfl rfl (WL.assign rfl rfl (WL.nil (WX.next (W.sub [(4, _)] (.cons rfl .nil) (W.ret (WX.thenRet (WX.ret1 rfl rfl ?_)))))))))
   have e1 : doS h ⟨wx.s, l, false⟩ k.d c = (encE c, ⟨wx.s, l, false⟩, k.d) := by unfold doS; rw [if_neg (by simp), if_pos (by omega)]
   rw [e1]
   have M4 : Mem w0 w (sbRow g wx.g Al l.length cl false :: Asr.lst pairE Al cl l :: wx.O :: k.O :: L2) := M.sel Sel.a
   exact ⟨rfl, ⟨g, wx, Al, cl, l, false⟩, k, rfl, rfl, rfl, ⟨hw, hs⟩, rfl, rfl, hk, rfl, by omega, Mem.star3 M4⟩
  ·have he0 : encE c = 0 := by omega
   have hev : encV c = encB c := by unfold encV; rw [if_pos he0]
   obtain ⟨hrb, hbl⟩ := encE_0.1 he0
   have hc32 := hrb.1
   have hkl : ∀ z ∈ c, z.key.length ≤ 100000 ∧ z.value.length ≤ 100000 := fun z hz => by
    have h1 := (hrb.2 z hz).2.1
    have h2 := (hrb.2 z hz).2.2.1
    exact ⟨by omega, by omega⟩
   rw [hev] at M ⊢
   obtain ⟨r, hr1⟩ : ∃ r, r = appendW h wx.s k.d (encB c) := ⟨_, rfl⟩
   refine W.skip (WX.next (W.seq (W.region (WL.move rfl rfl (WL.nilCheck rfl rfl (WL.fieldR (off := 0) Tryz.underlying55 rfl rfl Tryz.sizeOf52 rfl rfl rfl ?_))))))
   refine WL.loadR Tryz.isAgg52 rfl M Has.a rfl rfl (WL.move rfl rfl ?_)
   refine WL.call Tryz.call75 rfl (rwAppend_ok w0 w _ _ _ wx k (by rw [← hh]; exact hw) hk hgd h6 (by omega) (encB c) A6 c6 (by omega) M Del.a Del.a (by intro w M; exact M.rdB Has.a)) rfl ?_
   rintro _ w ⟨rfl, wx2, k2, p1, p2, p4, p5, p6, p7, p8, p9, p10, M⟩
   rw [← hh, ← hr1] at p4 p7 ⊢
   rw [← hh] at p5
   have hk2 : halfD k2.d = h := by rw [halfD_len p9, hh]
   refine WL.assign rfl rfl (WL.nil (WX.next (W.sub [(0, _), (1, _), (5, _), (6, _)] (.cons rfl (.cons rfl (.cons rfl (.cons rfl .nil)))) (W.seq (W.seq (W.region (WL.move rfl rfl (WL.eqI rfl rfl rfl (WL.nil (WX.next (W.sub [(0, _), (1, _), (5, _), (6, _), (26, _)] (.cons rfl (.cons rfl (.cons rfl (.cons rfl (.cons rfl .nil))))) (W.ite rfl (fun c2 => ?_) (fun c2 => ?_)))))))))))))
   ·have hr5 : r.1 = 5 := by omega
    rw [← p1] at M
    have M5 : Mem w0 w ((SbX.mk g wx2 Al cl l false).O :: k2.O :: Asr.own 5 1 A6 (encB c).length c6 (bs (encB c)) :: L2) := Mem.star3 (M.sel (K := sbRow g wx2.g Al l.length cl false :: Asr.lst pairE Al cl l :: wx2.O :: k2.O :: Asr.own 5 1 A6 (encB c).length c6 (bs (encB c)) :: L2) Sel.a)
    replace M := M5
    obtain ⟨q, hq1⟩ : ∃ q, q = ckS h ⟨r.2.1, l, false⟩ r.2.2 := ⟨_, rfl⟩
    have hs8 : SbX.s ⟨g, wx2, Al, cl, l, false⟩ = ⟨r.2.1, l, false⟩ := by unfold SbX.s; rw [p4]
    refine W.seq (W.region (WL.move rfl rfl ?_))
    refine WL.call Tryz.call76 rfl (rsCheckpoint_ok w0 w _ _ _ ⟨g, wx2, Al, cl, l, false⟩ k2 (by rw [hk2]; exact ⟨p5, hs⟩) p8 (by dsimp only; rw [p2, hgd, p6]) (by omega) (by omega) rfl hl12 M Del.a Del.a) rfl ?_
    rintro _ w ⟨rfl, x3, k3, q1, q2, q4, q5, q6, q7, q8, q9, q10, M⟩
    dsimp only at q1 q2
    rw [hk2, hs8, p7, ← hq1] at q4 q7 ⊢
    rw [hk2] at q5
    have hk3 : halfD k3.d = h := by rw [halfD_len q9, hk2]
    refine WL.assign rfl rfl (WL.nil (WX.next (W.sub [(0, _), (1, _), (5, _), (6, _)] (.cons rfl (.cons rfl (.cons rfl (.cons rfl .nil)))) (W.seq (W.region (WL.move rfl rfl (WL.eqI rfl rfl rfl (WL.nil (WX.next (W.sub [(0, _), (1, _), (5, _), (6, _), (30, _)] (.cons rfl (.cons rfl (.cons rfl (.cons rfl (.cons rfl .nil))))) (W.ite rfl (fun c3 => ?_) (fun c3 => ?_))))))))))))
    ·have hq0 : ¬ q.1 ≠ 0 := by omega
     obtain ⟨g3, wx3, Al3, cl3, l3, dead3⟩ := x3
     obtain ⟨hw3, hs3⟩ := q5
     dsimp only at q1 q2 hw3 hs3
     have hq4 : wx3.s = q.2.1.w ∧ l3 = q.2.1.l ∧ dead3 = q.2.1.dead := by rw [← q4]; exact ⟨rfl, rfl, rfl⟩
     have hql : q.2.1.l = l := by rw [hq1]; unfold ckS endS; simp
     have hqd : q.2.1.dead = false := by
      have hq6 : q.1 = 0 := by omega
      have hq7 : q.2.1.dead = decide (q.1 = 6) := by rw [hq1]; rfl
      rw [hq7, hq6]
      rfl
     rw [hql] at hq4
     rw [hqd] at hq4
     obtain ⟨hq4a, hq4b, hq4c⟩ := hq4
     subst q1 hq4b hq4c
     replace M := M.unstar3
     dsimp only at M
     obtain ⟨t, ht1⟩ : ∃ t, t = appendW h wx3.s k3.d (encB c) := ⟨_, rfl⟩
     refine W.region (WL.move rfl rfl (WL.nilCheck rfl rfl (WL.fieldR (off := 0) Tryz.underlying55 rfl rfl Tryz.sizeOf52 rfl rfl rfl ?_)))
     refine WL.loadR Tryz.isAgg52 rfl M Has.a rfl rfl (WL.move rfl rfl ?_)
     refine WL.call Tryz.call75 rfl (rwAppend_ok w0 w _ _ _ wx3 k3 (by rw [hk3]; exact hw3) q8 (by rw [q2, p2, hgd, q6, p6]) (by omega) (by omega) (encB c) A6 c6 (by omega) M Del.a Del.a (by intro w M; exact M.rdB Has.a)) rfl ?_
     rintro _ w ⟨rfl, wx4, k4, t1, t2, t4, t5, t6, t7, t8, t9, t10, M⟩
     rw [hk3, ← ht1] at t4 t7 ⊢
     rw [hk3] at t5
     have e0 : doS h ⟨wx.s, l3, false⟩ k.d c = endS l3 (layL l3 c) t := by
      unfold doS
      rw [if_neg (by simp), if_neg (by omega)]
      dsimp only
      rw [← hr1, if_pos hr5, ← hq1, if_neg hq0, ← hq4a, ← q7, ← ht1]
     refine WL.assign rfl rfl (WL.nil (WX.next (W.sub [(0, _), (1, _), (6, _)] (.cons rfl (.cons rfl (.cons rfl .nil))) (W.seq (W.seq (W.region (WL.move rfl rfl (WL.eqI rfl rfl rfl (WL.nil (WX.next (W.sub [(0, _), (1, _), (6, _), (38, _)] (.cons rfl (.cons rfl (.cons rfl (.cons rfl .nil)))) (W.ite rfl (fun c4 => ?_) (fun c4 => ?_)))))))))))))
     ·have ht0 : t.1 = 0 := by omega
      have MS : Mem w0 w (Asr.lst pairE Al3 cl3 l3 :: sbRow g3 wx3.g Al3 l3.length cl3 false :: wx4.O :: k4.O :: L2) := M.sel Sel.a
      have hs5 := hs3
      have hl5 : l3.length ≤ 12 := hl12
      refine W.region (WL.move rfl rfl (WL.move rfl rfl (WL.nilCheck rfl rfl (WL.fieldR (off := 1) Tryz.underlying55 rfl rfl Tryz.sizeOf53 rfl rfl rfl ?_))))
      refine WL.loadR Tryz.isAgg53 rfl M Has.a rfl rfl (WL.move rfl rfl ?_)
      refine WL.call Tryz.call29 rfl (refLay_ok w0 w _ _ hs5 (by omega) (by omega) hkl MS .here (by intro w M; exact hr.at (M.sel Sel.a))) rfl ?_
      rintro _ w ⟨A12, c12, rfl, M⟩
      refine WL.nilCheck rfl rfl (WL.fieldR (off := 1) Tryz.underlying55 rfl rfl Tryz.sizeOf53 rfl rfl rfl ?_)
      refine WL.storeR Tryz.sizeOf53 rfl rfl rfl M Has.a (by repeat (first | exact SetAt.zero | apply SetAt.succ)) Upd.a ?_
      intro w M
      refine WL.nil (WX.next (W.sub [(0, _), (6, _)] (.cons rfl (.cons rfl .nil)) (W.seq (W.region (WL.move rfl rfl (WL.move rfl rfl (WL.call Tryz.call77 rfl (rsTold_ok w0 _ _ _ _ M Del.a) rfl ?_)))))))
      rintro _ w ⟨rfl, M⟩
      refine WL.assign rfl rfl (WL.nil (WX.next (W.sub [(4, _)] (.cons rfl .nil) (W.ret (WX.ret1 rfl rfl ?_)))))
      rw [e0]
      unfold endS
      rw [if_pos ht0]
      have M6 : Mem w0 w (sbRow g3 wx4.g A12 (layL l3 c).length c12 (decide (t.1 = 6)) :: Asr.lst pairE A12 c12 (layL l3 c) :: wx4.O :: k4.O :: L2) := by rw [t1]; rw [Bool.false_or] at M; exact M.sel Sel.a
      exact ⟨rfl, ⟨g3, wx4, A12, c12, layL l3 c, decide (t.1 = 6)⟩, k4, rfl, by dsimp only; rw [t2, q2, p2], by unfold SbX.s; dsimp only; rw [t4], ⟨t5, layL_SP c hs3⟩, by rw [t6, q6, p6], t7, t8, by rw [t9, q9, p9], by omega, Mem.star3 M6⟩
     ·have ht0 : ¬ t.1 = 0 := by omega
      refine W.skip (WX.next (W.seq (W.region (WL.move rfl rfl (WL.move rfl rfl (WL.call Tryz.call77 rfl (rsTold_ok w0 _ _ _ _ M Del.a) rfl ?_))))))
      rintro _ w ⟨rfl, M⟩
      refine WL.assign rfl rfl (WL.nil (WX.next (W.sub [(4, _)] (.cons rfl .nil) (W.ret (WX.ret1 rfl rfl ?_)))))
      rw [e0]
      unfold endS
      rw [if_neg ht0]
      have M6 : Mem w0 w (sbRow g3 wx4.g Al3 l3.length cl3 (decide (t.1 = 6)) :: Asr.lst pairE Al3 cl3 l3 :: wx4.O :: k4.O :: L2) := by rw [t1]; rw [Bool.false_or] at M; exact M.sel Sel.a
      exact ⟨rfl, ⟨g3, wx4, Al3, cl3, l3, decide (t.1 = 6)⟩, k4, rfl, by dsimp only; rw [t2, q2, p2], by unfold SbX.s; dsimp only; rw [t4], ⟨t5, hs3⟩, by rw [t6, q6, p6], t7, t8, by rw [t9, q9, p9], by omega, Mem.star3 M6⟩
    ·have hq0 : q.1 ≠ 0 := by omega
     refine W.skip (WX.next (W.seq (W.seq (W.region (WL.move rfl rfl (WL.eqI rfl rfl rfl (WL.nil (WX.next (W.sub [(0, _), (1, _), (6, _), (38, _)] (.cons rfl (.cons rfl (.cons rfl (.cons rfl .nil)))) (W.ite rfl (fun c4 => ?_) (fun c4 => ?_)))))))))))
     ·exact absurd c4 c3
     ·obtain ⟨g3, wx3, Al3, cl3, l3, dead3⟩ := x3
      obtain ⟨hw3, hs3⟩ := q5
      dsimp only at q1 q2 hw3 hs3
      have hq4 : wx3.s = q.2.1.w ∧ l3 = q.2.1.l ∧ dead3 = q.2.1.dead := by rw [← q4]; exact ⟨rfl, rfl, rfl⟩
      have hqd : q.2.1.dead = decide (q.1 = 6) := by rw [hq1]; rfl
      replace M := M.unstar3
      dsimp only at M
      rw [q1] at M
      refine W.skip (WX.next (W.seq (W.region (WL.move rfl rfl (WL.move rfl rfl (WL.call Tryz.call77 rfl (rsTold_ok w0 _ _ _ _ M Del.a) rfl ?_))))))
      rintro _ w ⟨rfl, M⟩
      refine WL.assign rfl rfl (WL.nil (WX.next (W.sub [(4, _)] (.cons rfl .nil) (W.ret (WX.ret1 rfl rfl ?_)))))
      have e0 : doS h ⟨wx.s, l, false⟩ k.d c = q := by
       unfold doS
       rw [if_neg (by simp), if_neg (by omega)]
       dsimp only
       rw [← hr1, if_pos hr5, ← hq1, if_pos hq0]
      rw [e0]
      have hdd9 : (dead3 || decide (q.1 = 6)) = dead3 := by rw [hq4.2.2, hqd, Bool.or_self]
      rw [hdd9] at M
      have M6 : Mem w0 w (sbRow g wx3.g Al3 l3.length cl3 dead3 :: Asr.lst pairE Al3 cl3 l3 :: wx3.O :: k3.O :: L2) := M.sel Sel.a
      exact ⟨rfl, ⟨g, wx3, Al3, cl3, l3, dead3⟩, k3, rfl, by dsimp only; rw [q2, p2], q4, ⟨hw3, hs3⟩, by rw [q6, p6], q7, q8, by rw [q9, p9], by omega, Mem.star3 M6⟩
   ·have hr5 : ¬ r.1 = 5 := by omega
    have e0 : doS h ⟨wx.s, l, false⟩ k.d c = endS l (layL l c) r := by
     unfold doS
     rw [if_neg (by simp), if_neg (by omega)]
     dsimp only
     rw [← hr1, if_neg hr5]
    refine W.skip (WX.next (W.seq (W.seq (W.region (WL.move rfl rfl (WL.eqI rfl rfl rfl (WL.nil (WX.next (W.sub [(0, _), (1, _), (6, _), (38, _)] (.cons rfl (.cons rfl (.cons rfl (.cons rfl .nil)))) (W.ite rfl (fun c4 => ?_) (fun c4 => ?_)))))))))))
    ·have hr0 : r.1 = 0 := by omega
     have MS : Mem w0 w (Asr.lst pairE Al cl l :: sbRow g wx.g Al l.length cl false :: wx2.O :: k2.O :: L2) := M.sel Sel.a
     have hs5 := hs
     have hl5 : l.length ≤ 12 := hl12
     refine W.region (WL.move rfl rfl (WL.move rfl rfl (WL.nilCheck rfl rfl (WL.fieldR (off := 1) Tryz.underlying55 rfl rfl Tryz.sizeOf53 rfl rfl rfl ?_))))
     refine WL.loadR Tryz.isAgg53 rfl M Has.a rfl rfl (WL.move rfl rfl ?_)
     refine WL.call Tryz.call29 rfl (refLay_ok w0 w _ _ hs5 (by omega) (by omega) hkl MS .here (by intro w M; exact hr.at (M.sel Sel.a))) rfl ?_
     rintro _ w ⟨A12, c12, rfl, M⟩
     refine WL.nilCheck rfl rfl (WL.fieldR (off := 1) Tryz.underlying55 rfl rfl Tryz.sizeOf53 rfl rfl rfl ?_)
     refine WL.storeR Tryz.sizeOf53 rfl rfl rfl M Has.a (by repeat (first | exact SetAt.zero | apply SetAt.succ)) Upd.a ?_
     intro w M
     refine WL.nil (WX.next (W.sub [(0, _), (6, _)] (.cons rfl (.cons rfl .nil)) (W.seq (W.region (WL.move rfl rfl (WL.move rfl rfl (WL.call Tryz.call77 rfl (rsTold_ok w0 _ _ _ _ M Del.a) rfl ?_)))))))
     rintro _ w ⟨rfl, M⟩
     refine WL.assign rfl rfl (WL.nil (WX.next (W.sub [(4, _)] (.cons rfl .nil) (W.ret (WX.ret1 rfl rfl ?_)))))
     rw [e0]
     unfold endS
     rw [if_pos hr0]
     have M6 : Mem w0 w (sbRow g wx2.g A12 (layL l c).length c12 (decide (r.1 = 6)) :: Asr.lst pairE A12 c12 (layL l c) :: wx2.O :: k2.O :: L2) := by rw [p1]; rw [Bool.false_or] at M; exact M.sel Sel.a
     exact ⟨rfl, ⟨g, wx2, A12, c12, layL l c, decide (r.1 = 6)⟩, k2, rfl, p2, by unfold SbX.s; dsimp only; rw [p4], ⟨p5, layL_SP c hs⟩, p6, p7, p8, p9, by omega, Mem.star3 M6⟩
    ·have hr0 : ¬ r.1 = 0 := by omega
     refine W.skip (WX.next (W.seq (W.region (WL.move rfl rfl (WL.move rfl rfl (WL.call Tryz.call77 rfl (rsTold_ok w0 _ _ _ _ M Del.a) rfl ?_))))))
     rintro _ w ⟨rfl, M⟩
     refine WL.assign rfl rfl (WL.nil (WX.next (W.sub [(4, _)] (.cons rfl .nil) (W.ret (WX.ret1 rfl rfl ?_)))))
     rw [e0]
     unfold endS
     rw [if_neg hr0]
     have M6 : Mem w0 w (sbRow g wx2.g Al l.length cl (decide (r.1 = 6)) :: Asr.lst pairE Al cl l :: wx2.O :: k2.O :: L2) := by rw [p1]; rw [Bool.false_or] at M; exact M.sel Sel.a
     exact ⟨rfl, ⟨g, wx2, Al, cl, l, decide (r.1 = 6)⟩, k2, rfl, p2, by unfold SbX.s; dsimp only; rw [p4], ⟨p5, hs⟩, p6, p7, p8, p9, by omega, Mem.star3 M6⟩
theorem loadL_len : ∀ {ls : List (List UInt8)} {acc l : List Pr}, SP acc → loadL ls acc = some l → l.length ≤ acc.length + 32 * ls.length
 | [], acc, l, _, h => by
   rw [loadL] at h
   cases h
   exact Nat.le_add_right _ _
 | b :: r, acc, l, hs, h => by
   rw [loadL] at h
   cases hd : decB b with
   | none => rw [hd] at h; cases h
   | some c =>
     rw [hd] at h
     have h1 := loadL_len (layL_SP c hs) h
     have h2 := layL_len c hs
     have h3 := (decB_right hd).1
     rw [List.length_cons]
     omega
set_option maxHeartbeats 2000000 in
set_option maxRecDepth 10000 in
theorem rsOpen_ok (k : RdX) (hok : k.d.ok) (hup : k.d.up) (h6 : 6 ≤ k.d.safe.length) (hsm : k.d.safe.length ≤ 1000) (hwa : k.d.waits.length ≤ 90000) (M : Mem w0 w L) (hd : Del k.O L L') :
 Fn Tryz.prog 8 [.pointer (some ⟨k.g, 0, none⟩)] w fun v w' => ∃ k' : RdX, k'.g = k.g ∧ k'.d = (openW k.d).2.2 ∧ k'.d.ok ∧ k'.d.safe.length = k.d.safe.length ∧ k'.d.waits.length ≤ k.d.waits.length + 1100 ∧
  ((loadL (openW k.d).2.1.l [] = none ∧ v = .tuple #[.pointer none, .int .i64 50] ∧ Mem w0 w' (k'.O :: L')) ∨
   (∃ x : SbX, loadL (openW k.d).2.1.l [] = some x.l ∧ v = .tuple #[.pointer (some ⟨x.g, 0, none⟩), .int .i64 0] ∧ x.wx.gd = k.g ∧ x.wx.s = (openW k.d).2.1 ∧ x.dead = false ∧ x.ok (halfD k.d) ∧ Mem w0 w' (x.O :: k'.O :: L'))) := by
 obtain ⟨T, hT⟩ : ∃ T, T = loadL (openW k.d).2.1.l [] := ⟨_, rfl⟩
 rw [← hT]
 refine Fn.enter Tryz.func8 rfl Tryz.ntmps8 rfl (W.sub [(0, _)] (.cons rfl .nil) (W.seq (W.region (WL.assign rfl rfl (WL.assign rfl rfl (WL.nil (WX.next (W.sub [(0, _)] (.cons rfl .nil) (W.seq (W.region (WL.move rfl rfl (WL.call Tryz.call27 rfl (rwOpen_ok k hok hup h6 hwa w0 w _ _ M hd) rfl ?_))))))))))))
 rintro _ w ⟨wx, k2, rfl, a1, a3, a4, a5, a6, a7, a8, a9, M⟩
 refine WL.move rfl rfl (WL.extractL rfl rfl rfl (WL.extractL rfl rfl rfl (WL.assign rfl rfl (WL.assign rfl rfl (WL.nil (WX.next (W.sub [(4, _), (5, _)] (.cons rfl (.cons rfl .nil)) (W.seq (W.seq (W.region (WL.move rfl rfl (WL.neI rfl rfl rfl (WL.nil (WX.next (W.sub [(4, _), (5, _), (16, _)] (.cons rfl (.cons rfl (.cons rfl .nil))) (W.ite rfl (fun c0 => ?_) (fun c0 => ?_)))))))))))))))))
 ·exact absurd rfl c0
 ·refine W.skip (WX.next (W.seq (W.region (WL.move rfl rfl (WL.buildP (places := #[(0, 1), (1, 1), (2, 1)]) Tryz.underlying55 Tryz.zeroValue55 (fun _ => by simp [Tryz.sizeOf52, Tryz.sizeOf53, Tryz.sizeOf4]) rfl (by repeat (first | exact Puts.nil | exact SetAt.zero | apply SetAt.succ | apply Puts.cons rfl rfl)) rfl ?_)))))
  refine WL.box rfl M rfl ?_
  intro g4_2 w M
  try simp only [Value.cells] at M
  try simp only [List.toList_toArray] at M
  refine WL.assign rfl rfl (WL.nil (WX.next (W.sub [(4, _), (6, _)] (.cons rfl (.cons rfl .nil)) (W.seq (W.seq ?_)))))
  obtain ⟨gw, gd, Aw, cw, ys, sw⟩ := wx
  dsimp only at a1 a3 M ⊢
  obtain ⟨hwok, hys⟩ := a4
  dsimp only at hwok hys
  have M9 : Mem w0 w (RwX.O ⟨gw, gd, Aw, cw, ys, sw⟩ :: Asr.row g4_2 55 [.pointer (some ⟨gw, 0, none⟩), .slice none 0 0, .bool false] :: k2.O :: L') := M.sel Sel.a
  replace M := M9.unstar3
  dsimp only at M
  have hyl : ys.length = sw.l.length := by rw [← hys, List.length_map]
  have hysh : ∀ i, i < ys.length → (el ys i).l.length ≤ 1024 := fun i hi => hwok.short _ (by rw [← hys]; exact List.mem_map.2 ⟨_, el_mem hi, rfl⟩)
  have hyfew : ys.length ≤ 1700 := by have h9 := framesB_few sw.l hwok.short; have h8 := hwok.fits; unfold usedW at h8; unfold halfD at h8; omega
  have hT0 : loadL ((ys.map OX.l).drop 0) [] = T := by rw [List.drop_zero, hys, a3, hT]
  have M8 := M.nilOwn 124 2
  replace M := M8
  refine W.region (WL.assign rfl rfl (WL.nil (WX.next (W.sub [(4, _), (6, _), (7, _)] (.cons rfl (.cons rfl (.cons rfl .nil))) (W.block (W.loop (ι := Nat × Option Addr × Nat × List Pr) (fun z => [(4, .pointer (some ⟨gw, 0, none⟩)), (6, .pointer (some ⟨g4_2, 0, none⟩)), (7, .int .i64 (z.1 : Int))]) (fun zz w => Mem w0 w ((fun z => Asr.lst pairE z.2.1 z.2.2.1 z.2.2.2 :: sbRow g4_2 gw z.2.1 z.2.2.2.length z.2.2.1 false :: rwRow gw gd sw.epoch Aw ys.length cw sw.n sw.dead :: Asr.lst oxE Aw cw ys :: Asr.star (ys.map OX.O) :: k2.O :: L') zz) ∧ (fun z => z.1 ≤ ys.length ∧ SP z.2.2.2 ∧ z.2.2.2.length ≤ 32 * z.1 ∧ loadL ((ys.map OX.l).drop z.1) z.2.2.2 = T) zz) (fun z => ys.length - z.1) ((0, none, 0, [])) envSub.sf ⟨M.sel Sel.a, ⟨Nat.zero_le _, List.Pairwise.nil, Nat.zero_le _, hT0⟩⟩ ?_))))))
  clear M; rintro (⟨i, Ab, cb, l⟩) w ⟨M, ⟨hi, hs, hll, hload⟩⟩; dsimp only at M hi hs hll hload ⊢
  refine W.sub [(4, _), (6, _), (7, _)] (.cons rfl (.cons rfl (.cons rfl .nil))) (W.seq (W.seq (W.region (WL.move rfl rfl (WL.move rfl rfl (WL.nilCheck rfl rfl (WL.fieldR (off := 2) Tryz.underlying91 rfl rfl Tryz.sizeOf82 rfl rfl rfl ?_)))))))
  refine WL.loadR Tryz.isAgg82 rfl M Has.a rfl rfl (WL.len Tryz.underlying82 rfl rfl (WL.lss rfl rfl rfl (WL.nil (WX.next (W.sub [(4, _), (6, _), (7, _), (27, _)] (.cons rfl (.cons rfl (.cons rfl (.cons rfl .nil)))) (W.ite rfl (fun c1 => ?_) (fun c1 => ?_)))))))
  ·have hil : i < ys.length := by omega
   have h24 := hysh i hil
   have hdr : (ys.map OX.l).drop i = (el ys i).l :: (ys.map OX.l).drop (i + 1) := by
    rw [List.drop_eq_getElem_cons (by rw [List.length_map]; exact hil)]
    simp [el, hil]
   rw [hdr, loadL] at hload
   obtain ⟨D8, hD8⟩ : ∃ D8, D8 = decB (el ys i).l := ⟨_, rfl⟩
   rw [← hD8] at hload
   refine W.skip (WX.next (W.seq (W.block (W.seq (W.region (WL.move rfl rfl (WL.nilCheck rfl rfl (WL.fieldR (off := 2) Tryz.underlying91 rfl rfl Tryz.sizeOf82 rfl rfl rfl ?_))))))))
   refine WL.loadR Tryz.isAgg82 rfl M Has.a rfl rfl (WL.move rfl rfl (WL.idxA Tryz.underlying82 Tryz.sizeOf84 rfl rfl (RdL.isSome (E := oxE) (by first | with_reducible assumption | with_reducible exact RdL.mem (by with_reducible assumption) M | exact M.rdL Has.a | exact RdLH.at (by assumption) (M.sel Sel.a) | exact RdL.nil _ _ _) (by omega)) (by omega) (by omega) (by first | exact rfl | exact (Int.toNat_of_nonneg (by omega)).symm) rfl ?_))
   refine WL.loadE0 (E := oxE) Tryz.isAgg84 rfl (by first | with_reducible assumption | with_reducible exact RdL.mem (by with_reducible assumption) M | exact M.rdL Has.a | exact RdLH.at (by assumption) (M.sel Sel.a) | exact RdL.nil _ _ _) (by omega) rfl rfl ?_
   refine WL.call Tryz.call28 rfl (refDecode_ok (b := (el ys i).l) (ownRd (M.starHas (f := OX.O) Has.a (el_mem hil))) (by omega)) rfl ?_
   rintro _ w ⟨A9, c9, rfl, m⟩
   replace M := M.call1 m; clear m
   rw [← hD8] at M ⊢
   refine WL.move rfl rfl (WL.extractL rfl rfl rfl (WL.extractL rfl rfl rfl (WL.assign rfl rfl (WL.assign rfl rfl (WL.nil (WX.next (W.sub [(4, _), (6, _), (7, _), (8, _), (9, _)] (.cons rfl (.cons rfl (.cons rfl (.cons rfl (.cons rfl .nil))))) (W.seq (W.seq (W.region (WL.move rfl rfl (WL.neI rfl rfl rfl (WL.nil (WX.next (W.sub [(4, _), (6, _), (7, _), (8, _), (9, _), (42, _)] (.cons rfl (.cons rfl (.cons rfl (.cons rfl (.cons rfl (.cons rfl .nil)))))) (W.ite rfl (fun c2 => ?_) (fun c2 => ?_)))))))))))))))))
   ·have hDn : D8 = none := by
     cases hh : D8 with
     | none => rfl
     | some c => rw [hh] at c2; exact absurd rfl c2
    refine W.seq (W.region (WL.move rfl rfl (WL.assign rfl rfl (WL.assign rfl rfl (WL.nil (WX.next (W.sub [(2, _), (3, _)] (.cons rfl (.cons rfl .nil)) (W.ret (WX.thenRet (WX.blockRet (WX.thenRet (WX.thenRet (WX.blockRet (WX.thenRet (WX.ret2 rfl rfl rfl ?_)))))))))))))))
    rw [hDn] at hload ⊢
    exact ⟨k2, a5, a6, a7, a8, a9, .inl ⟨hload.symm, rfl, M.sel Sel.a⟩⟩
   ·obtain ⟨c, hDc⟩ : ∃ c, D8 = some c := by
     cases hh : D8 with
     | none => rw [hh] at c2; exact absurd (by decide) c2
     | some c => exact ⟨c, rfl⟩
    have hDB : decB (el ys i).l = some c := by rw [← hD8, hDc]
    have hrb := decB_right hDB
    have hc32 := hrb.1
    have hkl : ∀ z ∈ c, z.key.length ≤ 100000 ∧ z.value.length ≤ 100000 := fun z hz => by
     have h1 := (hrb.2 z hz).2.1
     have h2 := (hrb.2 z hz).2.2.1
     exact ⟨by omega, by omega⟩
    have hln := layL_len c hs
    rw [hDc] at hload M ⊢
    dsimp only [Option.getD] at hload M ⊢
    refine W.skip (WX.next (W.region (WL.move rfl rfl (WL.move rfl rfl (WL.nilCheck rfl rfl (WL.fieldR (off := 1) Tryz.underlying55 rfl rfl Tryz.sizeOf53 rfl rfl rfl ?_))))))
    refine WL.loadR Tryz.isAgg53 rfl M Has.a rfl rfl (WL.move rfl rfl ?_)
    refine WL.call Tryz.call29 rfl (refLay_ok w0 w _ _ hs (by omega) (by omega) hkl (M.sel (K := Asr.lst pairE Ab cb l :: sbRow g4_2 gw Ab l.length cb false :: rwRow gw gd sw.epoch Aw ys.length cw sw.n sw.dead :: Asr.lst oxE Aw cw ys :: Asr.star (ys.map OX.O) :: k2.O :: Asr.lst cgE A9 c9 c :: L') Sel.a) .here (by intro w M; exact M.rdL Has.a)) rfl ?_
    rintro _ w ⟨A12, c12, rfl, M⟩
    refine WL.nilCheck rfl rfl (WL.fieldR (off := 1) Tryz.underlying55 rfl rfl Tryz.sizeOf53 rfl rfl rfl ?_)
    refine WL.storeR Tryz.sizeOf53 rfl rfl rfl M Has.a (by repeat (first | exact SetAt.zero | apply SetAt.succ)) Upd.a ?_
    intro w M
    refine WL.nil (WX.blockNormal (WX.next (W.sub [(4, _), (6, _), (7, _)] (.cons rfl (.cons rfl (.cons rfl .nil))) (W.region (WL.move rfl rfl (WL.add rfl rfl (by first | exact wI64 (by omega) | rfl) rfl ?_))))))
    refine WL.assign rfl rfl (WL.nil ?_)
    refine WX.round ((i + 1, A12, c12, layL l c)) envSub.sf ⟨M.sel Sel.a, ⟨by dsimp only; omega, layL_SP c hs, by dsimp only; omega, hload⟩⟩ (by first | omega | (dsimp only; omega))
  ·obtain rfl : i = ys.length := by omega
   rw [List.drop_eq_nil_of_le (by rw [List.length_map]; omega), loadL] at hload
   refine W.exit (WX.thenExit (WX.thenExit (WX.blockHere (WX.next (W.seq (W.region (WL.move rfl rfl (WL.assign rfl rfl (WL.assign rfl rfl (WL.nil (WX.next (W.sub [(2, _), (3, _)] (.cons rfl (.cons rfl .nil)) (W.ret (WX.ret2 rfl rfl rfl ?_))))))))))))))
   have M4 : Mem w0 w (rwRow gw gd sw.epoch Aw ys.length cw sw.n sw.dead :: Asr.lst oxE Aw cw ys :: Asr.star (ys.map OX.O) :: sbRow g4_2 gw Ab l.length cb false :: Asr.lst pairE Ab cb l :: k2.O :: L') := M.sel Sel.a
   have M5 : Mem w0 w (RwX.O ⟨gw, gd, Aw, cw, ys, sw⟩ :: sbRow g4_2 gw Ab l.length cb false :: Asr.lst pairE Ab cb l :: k2.O :: L') := Mem.star3 M4
   have M6 : Mem w0 w (sbRow g4_2 gw Ab l.length cb false :: Asr.lst pairE Ab cb l :: RwX.O ⟨gw, gd, Aw, cw, ys, sw⟩ :: k2.O :: L') := M5.sel Sel.a
   exact ⟨k2, a5, a6, a7, a8, a9, .inr ⟨⟨g4_2, ⟨gw, gd, Aw, cw, ys, sw⟩, Ab, cb, l, false⟩, hload.symm, rfl, a1, a3, rfl, ⟨⟨hwok, hys⟩, hs⟩, Mem.star3 M6⟩⟩
end
end Go.Proofs.YtlminileigfkcaaGreat
namespace Go.Proofs.YtlminileigfkcaaGreat
open Go Go.RowKit Go.Lib Crc Bin
/-- What is kept of a store of cuts. -/
structure FarS (s : Sr) : Prop where
 keys : ∀ p ∈ s.l, p.1 ∈ [35] :: keys6
 none : s.l = [] → s.w.l = []
 live : s.dead = false
theorem SP.nodup : ∀ {l : List Pr}, SP l → (l.map (·.1)).Nodup
 | [], _ => List.nodup_nil
 | p :: l, h => by
   obtain ⟨h1, h2⟩ := List.pairwise_cons.1 h
   refine List.nodup_cons.2 ⟨fun hm => ?_, SP.nodup (l := l) h2⟩
   obtain ⟨q, hq, e⟩ := List.mem_map.1 hm
   have := h1 q hq
   rw [e] at this
   exact tlt_irr _ this
theorem SP.seven {l : List Pr} (hs : SP l) (h : ∀ p ∈ l, p.1 ∈ [35] :: keys6) : l.length ≤ 7 := by
 have := nodup_sub (l.map (·.1)) ([35] :: keys6) hs.nodup (fun k hk => by
  obtain ⟨p, hp, rfl⟩ := List.mem_map.1 hk
  exact h p hp)
 rw [List.length_map] at this
 exact this
theorem lay1_keeps {l : List Pr} {c : Cg} {p : Pr} (hs : SP l) (h : p ∈ l) (hne : p.1 ≠ c.key) : p ∈ lay1 l c := by
 obtain ⟨L1, L2, q1, q2, q3, q4⟩ := lay1_split (c := c) hs
 rw [q4]
 have : p ∈ L1 ∨ p ∈ L2 := by
  rcases q3 with q3 | ⟨v, q3⟩
  ·rw [q3] at h; exact List.mem_append.1 h
  ·rw [q3] at h
   rcases List.mem_append.1 h with h | h
   ·exact .inl h
   ·rcases List.mem_cons.1 h with rfl | h
    ·exact absurd rfl hne
    ·exact .inr h
 rcases this with h | h
 ·exact List.mem_append.2 (.inl h)
 ·exact List.mem_append.2 (.inr (List.mem_append.2 (.inr h)))
theorem layL_keeps : ∀ (b : List Cg) {l : List Pr} {p : Pr}, SP l → p ∈ l → (∀ c ∈ b, p.1 ≠ c.key) → p ∈ layL l b
 | [], _, _, _, h, _ => h
 | c :: b, l, p, hs, h, hne => by
   show p ∈ layL (lay1 l c) b
   exact layL_keeps b (lay1_SP hs) (lay1_keeps hs h (hne c (List.mem_cons_self ..))) (fun d hd => hne d (List.mem_cons_of_mem _ hd))
theorem lay1_new {l : List Pr} {c : Cg} (hs : SP l) (hg : c.gone = false) : (c.key, c.value) ∈ lay1 l c := by
 obtain ⟨L1, L2, q1, q2, q3, q4⟩ := lay1_split (c := c) hs
 rw [q4]
 refine List.mem_append.2 (.inr (List.mem_append.2 (.inl ?_)))
 unfold insP
 rw [hg]
 simp
theorem keys6_no {k : List UInt8} (h : k ∈ keys6) : ([35] : List UInt8) ≠ k := by
 intro e
 have := keys6_len h
 rw [← e] at this
 exact absurd this (by decide)
theorem CutB.lays {bt : List Cg} {l : List Pr} (h : CutB bt) (hs : SP l) : layL l bt ≠ [] := by
 obtain ⟨v, t, rfl, h1, h2, h3⟩ := h
 have hm : (([35], v) : Pr) ∈ layL l (⟨[35], v, false⟩ :: t) := by
  show _ ∈ layL (lay1 l ⟨[35], v, false⟩) t
  exact layL_keeps t (lay1_SP hs) (lay1_new (c := ⟨[35], v, false⟩) hs rfl) (fun c hc => keys6_no (h3 c hc).1)
 intro e
 rw [e] at hm
 cases hm
theorem CutB.laidKeys {bt : List Cg} {l : List Pr} (h : CutB bt) (hs : SP l) (hk : ∀ p ∈ l, p.1 ∈ [35] :: keys6) : ∀ p ∈ layL l bt, p.1 ∈ [35] :: keys6 := by
 intro p hp
 rcases layL_mem bt hs hp with hp | ⟨c, hc, e, _⟩
 ·exact hk p hp
 ·rw [e]; exact h.keys c hc
theorem CutB.enc {bt : List Cg} (h : CutB bt) : encE bt = 0 := encE_0.2 ⟨h.right, Nat.le_trans h.len (by omega)⟩
theorem eachN_06 {σ : Type} {step : Nat → σ → Nat × σ} (h : ∀ i s, (step i s).1 = 0 ∨ (step i s).1 = 6) : ∀ (k i : Nat) (s : σ), (eachN step k i s).1 = 0 ∨ (eachN step k i s).1 = 6
 | 0, _, _ => .inl rfl
 | k + 1, i, s => by
   rw [eachN]
   split
   ·exact h i s
   ·exact eachN_06 h k (i + 1) _
theorem Dk.write_06 (d : Dk) (a : Nat) (s : Sec) : (d.write a s).1 = 0 ∨ (d.write a s).1 = 6 := by
 unfold Dk.write
 split
 ·exact .inl rfl
 ·exact .inr rfl
theorem layD_06 (base : Nat) (b : List UInt8) (k i : Nat) (d : Dk) : (layD base b k i d).1 = 0 ∨ (layD base b k i d).1 = 6 := eachN_06 (fun i d => d.write_06 _ _) k i d
theorem append_fits {s : Wl} {d : Dk} {x : List UInt8} (hl : s.l = []) (hx : x.length ≤ 248) : (appendW 29 s d x).1 ≠ 5 := by
 have hu : usedW s = 0 := by unfold usedW; rw [hl]; rfl
 unfold appendW
 split
 ·simp
 ·rw [if_neg (by omega), if_neg (by omega)]
  dsimp only
  have := layD_06 (firstN 29 s.epoch) (areaB 29 (s.l ++ [x])) ((usedW s + x.length + 9) / 32 + 1 - usedW s / 32) (usedW s / 32) d
  omega
theorem FarS.full {s : Sr} {d : Dk} {bt : List Cg} (h : FarS s) (hb : CutB bt) : (appendW 29 s.w d (encB bt)).1 = 5 → 0 < s.l.length := by
 intro h5
 rcases Nat.eq_zero_or_pos s.l.length with h0 | h0
 ·exact absurd h5 (append_fits (h.none (List.eq_nil_of_length_eq_zero h0)) hb.len)
 ·exact h0
theorem endS_l {l l' : List Pr} {r : Nat × Wl × Dk} (h : (endS l l' r).1 = 0) : (endS l l' r).2.1.l = l' ∧ (endS l l' r).2.1.dead = false := by
 unfold endS at h ⊢
 dsimp only at h ⊢
 rw [h]
 exact ⟨rfl, rfl⟩
theorem do_says {h : Nat} {s : Sr} {d : Dk} {bt : List Cg} (hd : s.dead = false) (hb : CutB bt) (h0 : (doS h s d bt).1 = 0) : (doS h s d bt).2.1.l = layL s.l bt ∧ (doS h s d bt).2.1.dead = false := by
 have he : ¬ encE bt ≠ 0 := by rw [hb.enc]; simp
 have e : ¬ s.dead = true := by rw [hd]; simp
 unfold doS at h0 ⊢
 rw [if_neg e, if_neg he] at h0 ⊢
 by_cases h5 : (appendW h s.w d (encB bt)).1 = 5
 ·rw [if_pos h5] at h0 ⊢
  by_cases hc : (ckS h ⟨(appendW h s.w d (encB bt)).2.1, s.l, false⟩ (appendW h s.w d (encB bt)).2.2).1 ≠ 0
  ·rw [if_pos hc] at h0
   exact absurd h0 hc
  ·rw [if_neg hc] at h0 ⊢
   exact endS_l h0
 ·rw [if_neg h5] at h0 ⊢
  exact endS_l h0
theorem sync_says {s : Sr} {d : Dk} (h0 : (syncS s d).1 = 0) : (syncS s d).2.1.l = s.l ∧ (syncS s d).2.1.dead = false ∧ (syncS s d).2.2.waits = [] := by
 unfold syncS at h0 ⊢
 split at h0
 ·exact absurd h0 (by simp)
 ·rename_i hd
  rw [if_neg hd]
  refine ⟨(endS_l h0).1, (endS_l h0).2, ?_⟩
  have h1 : (syncW s.w d).1 = 0 := h0
  show (syncW s.w d).2.2.waits = []
  unfold syncW at h1 ⊢
  split at h1
  ·exact absurd h1 (by simp)
  ·rename_i h2
   rw [if_neg h2]
   split at h1
   ·rename_i h3
    exact absurd h1 h3
   ·rename_i h3
    rw [if_neg h3]
    dsimp only
    unfold Dk.sync at h3 ⊢
    split
    ·rfl
    ·rename_i h4
     rw [if_neg h4] at h3
     exact absurd h3 (by simp)
theorem far_next {h : Nat} {s : Sr} {d : Dk} {bt : List Cg} (hf : FarS s) (hs : SP s.l) (hb : CutB bt) (h0 : (doS h s d bt).1 = 0) (h1 : (syncS (doS h s d bt).2.1 (doS h s d bt).2.2).1 = 0) :
 FarS (syncS (doS h s d bt).2.1 (doS h s d bt).2.2).2.1 ∧ (syncS (doS h s d bt).2.1 (doS h s d bt).2.2).2.2.waits = [] := by
 obtain ⟨a1, a2⟩ := do_says hf.live hb h0
 obtain ⟨b1, b2, b3⟩ := sync_says h1
 refine ⟨⟨?_, ?_, b2⟩, b3⟩
 ·rw [b1, a1]
  exact hb.laidKeys hs hf.keys
 ·rw [b1, a1]
  exact fun e => absurd e (hb.lays hs)
theorem el_start (n i : Nat) : el (Dk.start n).now i = default := by
 show el (List.replicate n default) i = default
 unfold el
 rw [List.getElem?_replicate]
 split <;> rfl
theorem secsB_start (n base : Nat) : ∀ k, secsB (Dk.start n).now base k = List.replicate (32 * k) 0
 | 0 => rfl
 | k + 1 => by
   rw [secsB_succ, secsB_start n base k, el_start, show 32 * (k + 1) = 32 * k + 32 by omega, ← List.replicate_append_replicate]
   rfl
theorem getR_zeros (n : Nat) : getR (List.replicate (n + 1) (0 : UInt8)) = (0, [], 0, 20) := by
 unfold getR
 rw [List.length_replicate, if_neg (by omega), if_pos]
 rw [List.replicate_succ, List.getElem?_cons_zero]
 decide
theorem scan_zeros (n f : Nat) : scanB (List.replicate (n + 1) (0 : UInt8)) (f + 1) 0 = ([], 0) := by
 rw [scanB, if_pos]
 right
 rw [getG_bad (e := 20) (by omega) (by rw [List.length_replicate]; omega) (by rw [Int.toNat_natCast, List.drop_zero]; exact getR_zeros n) (by omega)]
 decide
theorem scan_start : scanO (Dk.start 60) = ([], 0) := by
 unfold scanO
 obtain ⟨n, hn⟩ : ∃ n, n = 927 := ⟨_, rfl⟩
 have e : bytesO (Dk.start 60) = List.replicate (n + 1) 0 := by
  unfold bytesO
  rw [secsB_start, hn]
  have : halfD (Dk.start 60) = 29 := by
   unfold halfD Dk.start
   rw [List.length_replicate]
  rw [this]
 rw [e]
 exact scan_zeros n _
theorem openW_l (d : Dk) : (openW d).2.1.l = (scanO d).1 := rfl
theorem open_start : (openW (Dk.start 60)).2.1.l = [] := by
 rw [openW_l, scan_start]
theorem start_up : (Dk.start 60).up := ⟨rfl, rfl⟩
theorem start_ok : (Dk.start 60).ok := ⟨by decide, by decide, fun p hp => (by cases hp), by decide, by decide⟩
theorem crash_up (d : Dk) (keep : List Int) : (d.crash keep).up := ⟨rfl, rfl⟩
theorem crash_ok {d : Dk} (h : d.ok) (keep : List Int) : (d.crash keep).ok := by
 have hl : (d.crash keep).safe.length = d.safe.length := crashN_length ..
 exact ⟨by rw [hl]; exact h.pos, by rw [hl]; exact h.len, fun p hp => (by cases hp), Nat.zero_le _, Nat.zero_le _⟩
/-- Values that are loaded are short. -/
theorem loadL_short : ∀ {ls : List (List UInt8)} {acc l : List Pr}, SP acc → (∀ p ∈ acc, p.2.length ≤ 128) → loadL ls acc = some l → SP l ∧ ∀ p ∈ l, p.2.length ≤ 128
 | [], acc, l, hs, hp, h => by
   rw [loadL] at h
   cases h
   exact ⟨hs, hp⟩
 | b :: r, acc, l, hs, hp, h => by
   rw [loadL] at h
   cases hd : decB b with
   | none => rw [hd] at h; cases h
   | some c =>
     rw [hd] at h
     refine loadL_short (layL_SP c hs) (fun p hq => ?_) h
     rcases layL_mem c hs hq with hq | ⟨x, hx, _, e⟩
     ·exact hp p hq
     ·rw [e]
      exact ((decB_right hd).2 x hx).2.2.1
/-- Some cut's pairs are few. -/
theorem pairsF_keys {its : List It} (h : ItsOk its) (n : Nat) : ∀ p ∈ pairsF its n, p.1 ∈ keys6 := by
 intro p hp
 unfold pairsF at hp
 rcases layL_mem _ (l := []) List.Pairwise.nil hp with hp | ⟨c, hc, e, _⟩
 ·cases hp
 ·rw [e]
  obtain ⟨i, hi, rfl⟩ := List.mem_map.1 hc
  obtain ⟨hi1, hi2⟩ := List.mem_filter.1 hi
  obtain ⟨j, hj, hij⟩ := List.mem_iff_getElem.1 hi1
  have hok := (h.each j hj).2
  have e2 : el its j = i := by rw [← hij]; simp [el, hj]
  rw [e2] at hok
  have hm : i.mark = false := by
   have := hi2
   simp at this
   exact this.2
  exact (hok.2 hm).1
theorem isCutF_few {l : List Pr} {its : List It} {sure : Nat} (h : ItsOk its) (hc : isCutF l its sure = true) : l.length ≤ 12 := by
 have e : (cutOfF l).2.1 = pairsF its (cutOfF l).1 := by
  unfold isCutF at hc
  simp only [Bool.and_eq_true, decide_eq_true_eq] at hc
  exact hc.2
 have h6 : (pairsF its (cutOfF l).1).length ≤ 7 := SP.seven (pairsF_SP _ _) (fun p hp => List.mem_cons_of_mem _ (pairsF_keys h _ p hp))
 have hl : l.length ≤ (cutOfF l).2.1.length + 1 ∨ (cutOfF l).2.2 = false := by
  unfold cutOfF
  split
  ·rename_i h0
   rw [h0]
   exact .inl (by simp)
  ·split
   ·exact .inr rfl
   ·left
    dsimp only
    rw [List.length_drop]
    omega
 rcases hl with hl | hl
 ·rw [e] at hl
  omega
 ·unfold isCutF at hc
  rw [hl] at hc
  simp at hc
end Go.Proofs.YtlminileigfkcaaGreat
namespace Go.Proofs.YtlminileigfkcaaGreat
open Go Go.RowKit Go.Lib Crc Bin
section
variable (w0 w : World) (L L1 L2 : List Asr)
set_option maxHeartbeats 2000000 in
set_option maxRecDepth 10000 in
theorem stCheckpoint_ok (x : SaX) (k : DkX) (hx : x.ok) (hk : k.d.ok) (hgd : x.wx.gd = k.g) (hsz : 2 + 2 * x.wx.h ≤ k.d.safe.length) (hwa : k.d.waits.length ≤ 90000) (hdd : x.dead = false) (hl0 : 0 < x.l.length) (hl12 : x.l.length ≤ 12) (M : Mem w0 w L) (hd1 : Del x.O L L1) (hd2 : Del k.O L1 L2) :
 Fn Tryz.prog 74 [.pointer (some ⟨x.g, 0, none⟩)] w fun v w' => v = .int .i64 ((ckS x.wx.h x.s k.d).1 : Int) ∧ ∃ (x' : SaX) (k' : DkX), x'.g = x.g ∧ x'.wx.gd = x.wx.gd ∧ x'.wx.h = x.wx.h ∧ x'.s = (ckS x.wx.h x.s k.d).2.1 ∧ x'.ok ∧ k'.g = k.g ∧ k'.d = (ckS x.wx.h x.s k.d).2.2 ∧ k'.d.ok ∧ k'.d.safe.length = k.d.safe.length ∧ k'.d.waits.length ≤ k.d.waits.length + 1100 ∧
  Mem w0 w' (x'.O :: k'.O :: L2) := by
 have M1 := ((M.del hd1).perm (List.Perm.cons _ hd2.perm)).unstar3
 clear M
 have M := M1
 obtain ⟨hw, hp, hs⟩ := hx
 obtain ⟨g, gm, wx, ms, l, dead⟩ := x
 dsimp only at *
 subst hdd
 refine FnM.enter Tryz.func74 rfl Tryz.ntmps74 rfl (W.sub [(0, _)] (.cons rfl .nil) (W.seq (W.region (WL.assign rfl rfl (WL.nil (WX.next (W.sub [(0, _)] (.cons rfl .nil) (W.seq (W.seq (W.region (WL.move rfl rfl (WL.call Tryz.call70 rfl (stReady_ok w0 _ _ M Has.a) rfl ?_))))))))))))
 rintro _ _ ⟨rfl, hw9⟩
 rw [hw9]; clear hw9
 refine WL.assign rfl rfl (WL.nil (WX.next (W.sub [(0, _), (3, _)] (.cons rfl (.cons rfl .nil)) (W.seq (W.region (WL.move rfl rfl (WL.neI rfl rfl rfl (WL.nil (WX.next (W.sub [(0, _), (3, _), (12, _)] (.cons rfl (.cons rfl (.cons rfl .nil))) (W.ite rfl (fun c0 => ?_) (fun c0 => ?_))))))))))))
 ·exact absurd c0 (by simp)
 ·refine W.skip (WX.next (W.seq (W.region (WL.alloc Tryz.zeroValue82 M rfl ?_))))
  intro g4_0 w M
  try simp only [Value.cells] at M
  try simp only [List.toList_toArray] at M
  refine WL.nil (WX.next (W.sub [(0, _), (4, _)] (.cons rfl (.cons rfl .nil)) (W.seq (W.seq (W.region (WL.move rfl rfl ?_))))))
  refine WL.call Tryz.call41 rfl (stAll_ok w0 _ _ (by rw [hp.length_eq]; exact hl12) M Has.a Has.a) rfl ?_
  rintro _ w ⟨gk, gb, gc, Ak, ck, ys, rfl, h1, h2, M⟩
  refine WL.nil (WX.next (W.sub [(0, _), (4, _), (15, _)] (.cons rfl (.cons rfl (.cons rfl .nil))) (W.block ?_)))
  have hyl := rising_keys hp hs h1 h2
  have M0 : Mem w0 w ([Asr.row gk 71 [.slice Ak ys.length ck], Asr.lst txE Ak ck ys, Asr.row gb 79 [.map (some gc)], Asr.mp strV gc ms] ++ ([Asr.row g4_0 82 [.slice none 0 0], Asr.lst oxE none 0 []] ++ (Asr.star (([] : List OX).map OX.O) :: saRow g wx.g gm false :: Asr.mp strV gm ms :: wx.O :: k.O :: L2))) := ((Mem.starNil M).nilOwn 84 1).sel (K := Asr.row gk 71 [.slice Ak ys.length ck] :: Asr.lst txE Ak ck ys :: Asr.row gb 79 [.map (some gc)] :: Asr.mp strV gc ms :: Asr.row g4_0 82 [.slice none 0 0] :: Asr.lst oxE none 0 [] :: Asr.star (([] : List OX).map OX.O) :: saRow g wx.g gm false :: Asr.mp strV gm ms :: wx.O :: k.O :: L2) Sel.a
  refine W.rangeF (α := Pr) (σ := Option Addr × Nat × List OX) (all_iter gk gb gc Ak ck ms l (by omega) hp hs ys hyl) rfl All2_call (fun _ => rfl) (fun z => [Asr.row g4_0 82 [.slice z.1 z.2.2.length z.2.1], Asr.lst oxE z.1 z.2.1 z.2.2] ++ (Asr.star (z.2.2.map OX.O) :: saRow g wx.g gm false :: Asr.mp strV gm ms :: wx.O :: k.O :: L2)) (fun pre z => z.2.2.map OX.l = pre.map enc1) (none, 0, []) rfl M0 (fun p => [(17, str p.2), (16, str p.1), (4, .pointer (some ⟨g4_0, 0, none⟩))]) (fun p => [(6, str p.2), (5, str p.1), (4, .pointer (some ⟨g4_0, 0, none⟩))]) (fun p a ha => (params2 ha rfl rfl).sub (.cons rfl (.cons rfl (.cons rfl .nil)))) ?_ ?_ ?_
  ·intro l9 x9 w9 K9 hK9
   refine WI.seq (WI.region (WL.assign rfl rfl (WLI.nil (WI.next (WI.region (WL.assign rfl rfl (WLI.nil ?_)))))))
   exact fun a9 ha9 => hK9 a9 (ha9.sub envSub.sf)
  ·rintro l9 LX pre p ⟨A, c, xs⟩ w ⟨hg9, hxl⟩ hxs M
   dsimp only at hxs M
   have hxl9 : xs.length = pre.length := by have := congrArg List.length hxs; simpa using this
   replace M : Mem w0 w (Asr.row g4_0 82 [.slice A xs.length c] :: Asr.lst oxE A c xs :: Asr.star (xs.map OX.O) :: ((saRow g wx.g gm false :: Asr.mp strV gm ms :: wx.O :: k.O :: L2) ++ LX)) := M
   refine WI.block (WI.seq (WI.region (WL.move rfl rfl (WL.move rfl rfl (WL.buildP (places := #[(0, 1), (1, 1), (2, 1)]) Tryz.underlying63 Tryz.zeroValue63 (fun _ => by simp [Tryz.sizeOf9, Tryz.sizeOf9, Tryz.sizeOf4]) rfl (by repeat (first | exact Puts.nil | exact SetAt.zero | apply SetAt.succ | apply Puts.cons rfl rfl)) rfl ?_)))))
   refine WL.buildL (E := cgE) (l := [(⟨p.1, p.2, false⟩ : Cg)]) Tryz.elem63 M rfl rfl rfl rfl rfl rfl ?_
   intro g8_3 w M
   refine WL.call Tryz.call71 rfl (stEncode_ok (l := [(⟨p.1, p.2, false⟩ : Cg)]) (M.rdL Has.a)) rfl ?_
   rintro _ w ⟨A8, c8', rfl, m⟩
   replace M := M.call1 m; clear m
   refine WL.move rfl rfl (WL.extractL rfl rfl rfl (WL.extractL rfl rfl rfl (WL.assign rfl rfl (WL.assign rfl rfl (WLI.nil (WI.next (WI.region (WL.loadR Tryz.isAgg82 rfl M Has.a rfl rfl (WL.move rfl rfl (WL.buildL (E := oxE) (l := [(⟨A8, c8', enc1 p⟩ : OX)]) Tryz.elem84 M rfl rfl rfl rfl rfl rfl ?_))))))))))
   intro g9_2 w M
   refine WL.appendL (E := oxE) Tryz.elem84 rfl rfl M Del.a (by first | with_reducible assumption | with_reducible exact RdL.mem (by with_reducible assumption) M | exact M.rdL Has.a | exact RdLH.at (by assumption) (M.sel Sel.a) | exact RdL.nil _ _ _) rfl rfl (by first | omega | (simp; done) | (simp; omega)) (by first | (simp only [maxLen]; omega) | (simp [maxLen]; done) | (simp [maxLen]; omega)) rfl ?_
   intro A9_3 cap9_3 w M
   refine WL.storeR Tryz.sizeOf82 rfl rfl rfl M Has.a (by repeat (first | exact SetAt.zero | apply SetAt.succ)) Upd.a ?_
   intro w M
   refine WLI.nil (WX.blockNormal ?_)
   obtain ⟨xs2, hxs2⟩ : ∃ xs2, xs2 = xs ++ [(⟨A8, c8', enc1 p⟩ : OX)] := ⟨_, rfl⟩
   have hxm : xs2.map OX.l = (pre ++ [p]).map enc1 := by rw [hxs2, List.map_append, hxs, List.map_append]; rfl
   have M2 : Mem w0 w (Asr.star (xs2.map OX.O) :: Asr.row g4_0 82 [.slice A9_3 xs2.length cap9_3] :: Asr.lst oxE A9_3 cap9_3 xs2 :: ((saRow g wx.g gm false :: Asr.mp strV gm ms :: wx.O :: k.O :: L2) ++ LX)) := by
    rw [hxs2, List.map_append]
    refine Mem.starSnoc ?_
    exact M.sel Sel.a
   exact fun a9 ha9 => ⟨rfl, (A9_3, cap9_3, xs2), hxm, M2.sel Sel.a⟩
  rintro D xs ⟨A, c, zs⟩ w hxs hzs M
  dsimp only at hxs hzs M
  rw [hxs] at hzs
  replace M := M.out2
  replace M : Mem w0 w (Asr.row g4_0 82 [.slice A zs.length c] :: Asr.lst oxE A c zs :: Asr.obj D (.deferred (some [])) :: Asr.row gk 71 [.slice Ak ys.length ck] :: Asr.lst txE Ak ck ys :: Asr.row gb 79 [.map (some gc)] :: Asr.mp strV gc ms :: Asr.star (zs.map OX.O) :: saRow g wx.g gm false :: Asr.mp strV gm ms :: wx.O :: k.O :: L2) := M
  have hzl : zs.length = l.length := by have := congrArg List.length hzs; simpa using this
  have hyb : ∀ y ∈ zs, y.l.length ≤ 1000000 := by
   intro y hy
   have h9 : y.l ∈ l.map enc1 := by rw [← hzs]; exact List.mem_map.2 ⟨_, hy, rfl⟩
   obtain ⟨q, hq, e⟩ := List.mem_map.1 h9
   rw [← e]
   have := encV_len [(⟨q.1, q.2, false⟩ : Cg)]
   unfold enc1
   omega
  refine Wd.blockNormal (Wd.next (Wd.sub [(0, _), (4, _)] (.cons rfl (.cons rfl .nil)) (Wd.seq (Wd.drawM ([saRow g wx.g gm false, Asr.row g4_0 82 [.slice A zs.length c]]) (by kernel_rfl) (fun j => [4, 5].contains j) M Sel.a ?_))))
  clear M; intro M
  apply DG.pure_ [0, 1, 2, 3] 5 rfl (by kernel_rfl) (by kernel_rfl)
  ·intro w
   refine WL.move rfl rfl (WL.move rfl rfl (WL.nilCheck rfl rfl (WL.fieldR (off := 0) Tryz.underlying81 rfl rfl Tryz.sizeOf76 rfl rfl rfl ?_)))
   exact Chain.end_ rfl
  apply DG.take [4, 5] 3 rfl (by kernel_rfl) (by kernel_rfl) (M.sel Sel.a)
  ·intro w M
   refine WL.loadR Tryz.isAgg76 rfl M Has.a rfl rfl (WL.loadR Tryz.isAgg82 rfl M Has.a rfl rfl ?_)
   exact Chain.end_ rfl
  refine DG.step 6 2 rfl (by kernel_rfl) ?_
  refine WL.call Tryz.call111 rfl (walReset_ok wx k hw hk hgd hsz hwa zs A c (by omega) (by omega) hyb w0 _ _ _ _ M Del.a Del.a (by intro w M; exact M.rdL Has.a) (fun y hy w M => ownRd (M.starHas (f := OX.O) Has.a hy))) rfl ?_
  rintro _ w ⟨rfl, wx2, k2, p1, p2, p3, p4, p5, p6, p7, p8, p9, p10, M⟩
  rw [hzs] at p4 p7 ⊢
  refine DG.go (G := fun j => [4, 5].contains j) (i := 6) (f' := 2) (done := [0, 1, 2, 3, 4, 5]) (fun h => by cases h) ?_
  refine DG.step 7 1 rfl (by kernel_rfl) ?_
  refine WL.call Tryz.call72 rfl (stTold_ok w0 _ _ _ (resetW wx.h wx.s k.d (l.map enc1)).1 M Del.a) rfl ?_
  rintro _ w ⟨rfl, M⟩
  refine DG.go (G := fun j => [4, 5].contains j) (i := 7) (f' := 1) (done := [0, 1, 2, 3, 4, 5, 6]) (fun h => by cases h) ?_
  apply DG.pure_ [8] 0 rfl (by kernel_rfl) (by kernel_rfl)
  ·intro w
   refine WL.assign rfl rfl ?_
   exact Chain.end_ rfl
  refine DG.end_ (by kernel_rfl) ?_
  refine Wd.next (Wd.sub [(2, _)] (.cons rfl .nil) (Wd.ret ?_))
  refine WX.retMark rfl rfl M Del.a ?_; intro w M
  refine ⟨rfl, ⟨g, gm, wx2, ms, l, decide ((resetW wx.h wx.s k.d (l.map enc1)).1 = 6)⟩, k2, rfl, p2, p3, ?_, ⟨p5, hp, hs⟩, p6, p7, p8, p9, p10, ?_⟩
  ·unfold SaX.s ckS endS
   dsimp only
   rw [p4, ite_self]
  ·have M4 : Mem w0 w (saRow g wx2.g gm (decide ((resetW wx.h wx.s k.d (l.map enc1)).1 = 6)) :: Asr.mp strV gm ms :: wx2.O :: k2.O :: L2) := by
    rw [p1]
    rw [Bool.false_or] at M
    exact M.sel Sel.a
   exact (Mem.star3 M4)
theorem stSync_ok (x : SaX) (k : DkX) (hx : x.ok) (hk : k.d.ok) (hgd : x.wx.gd = k.g) (hdd : x.dead = false) (M : Mem w0 w L) (hd1 : Del x.O L L1) (hd2 : Del k.O L1 L2) :
 Fn Tryz.prog 36 [.pointer (some ⟨x.g, 0, none⟩)] w fun v w' => v = .int .i64 ((syncS x.s k.d).1 : Int) ∧ ∃ (x' : SaX) (k' : DkX), x'.g = x.g ∧ x'.wx.gd = x.wx.gd ∧ x'.wx.h = x.wx.h ∧ x'.s = (syncS x.s k.d).2.1 ∧ x'.ok ∧ k'.g = k.g ∧ k'.d = (syncS x.s k.d).2.2 ∧ k'.d.ok ∧ k'.d.safe.length = k.d.safe.length ∧ k'.d.waits.length ≤ k.d.waits.length ∧
  Mem w0 w' (x'.O :: k'.O :: L2) := by
 have M1 := ((M.del hd1).perm (List.Perm.cons _ hd2.perm)).unstar3
 clear M
 have M := M1
 obtain ⟨hw, hp, hs⟩ := hx
 obtain ⟨g, gm, wx, ms, l, dead⟩ := x
 dsimp only at *
 subst hdd
 refine Fn.enter Tryz.func36 rfl Tryz.ntmps36 rfl (W.sub [(0, _)] (.cons rfl .nil) (W.seq (W.region (WL.assign rfl rfl (WL.nil (WX.next (W.sub [(0, _)] (.cons rfl .nil) (W.seq (W.seq (W.region (WL.move rfl rfl (WL.call Tryz.call70 rfl (stReady_ok w0 _ _ M Has.a) rfl ?_))))))))))))
 rintro _ _ ⟨rfl, hw9⟩
 rw [hw9]; clear hw9
 refine WL.assign rfl rfl (WL.nil (WX.next (W.sub [(0, _), (3, _)] (.cons rfl (.cons rfl .nil)) (W.seq (W.region (WL.move rfl rfl (WL.neI rfl rfl rfl (WL.nil (WX.next (W.sub [(0, _), (3, _), (7, _)] (.cons rfl (.cons rfl (.cons rfl .nil))) (W.ite rfl (fun c0 => ?_) (fun c0 => ?_))))))))))))
 ·exact absurd c0 (by simp)
 ·refine W.skip (WX.next (W.seq (W.region (WL.move rfl rfl (WL.move rfl rfl (WL.nilCheck rfl rfl (WL.fieldR (off := 0) Tryz.underlying81 rfl rfl Tryz.sizeOf76 rfl rfl rfl ?_)))))))
  refine WL.loadR Tryz.isAgg76 rfl M Has.a rfl rfl (WL.call Tryz.call78 rfl (walSync_ok wx k hw hk hgd w0 w _ _ _ M Del.a Del.a) rfl ?_)
  rintro _ w ⟨rfl, wx2, k2, p1, p2, p3, p4, p5, p6, p7, p8, p9, p10, M⟩
  refine WL.call Tryz.call72 rfl (stTold_ok w0 _ _ _ (syncW wx.s k.d).1 M Del.a) rfl ?_
  rintro _ w ⟨rfl, M⟩
  refine WL.assign rfl rfl (WL.nil (WX.next (W.sub [(2, _)] (.cons rfl .nil) (W.ret (WX.ret1 rfl rfl ?_)))))
  have e1 : syncS (SaX.s ⟨g, gm, wx, ms, l, false⟩) k.d = endS l l (syncW wx.s k.d) := by unfold syncS SaX.s; rw [if_neg (by simp)]
  rw [e1]
  unfold endS
  have M4 : Mem w0 w (saRow g wx2.g gm (decide ((syncW wx.s k.d).1 = 6)) :: Asr.mp strV gm ms :: wx2.O :: k2.O :: L2) := by
   rw [p1]
   rw [Bool.false_or] at M
   exact M.sel Sel.a
  exact ⟨rfl, ⟨g, gm, wx2, ms, l, decide ((syncW wx.s k.d).1 = 6)⟩, k2, rfl, p2, p3, by unfold SaX.s; dsimp only; rw [p4, ite_self], ⟨p5, hp, hs⟩, p6, p7, p8, p9, p10, Mem.star3 M4⟩
end
end Go.Proofs.YtlminileigfkcaaGreat
namespace Go.Proofs.YtlminileigfkcaaGreat
open Go Go.RowKit Go.Lib Crc Bin
section
variable (w0 w : World) (L L1 L2 : List Asr)
set_option maxHeartbeats 4000000 in
set_option maxRecDepth 10000 in
theorem stDo_ok (x : SaX) (k : DkX) (hx : x.ok) (hk : k.d.ok) (hgd : x.wx.gd = k.g) (hsz : 2 + 2 * x.wx.h ≤ k.d.safe.length) (hwa : k.d.waits.length ≤ 80000) (hdd : x.dead = false) (c : List Cg) (A : Option Addr) (cap : Nat) (hl0 : (appendW x.wx.h x.wx.s k.d (encB c)).1 = 5 → 0 < x.l.length) (hl12 : x.l.length ≤ 12) (M : Mem w0 w L) (hd1 : Del x.O L L1) (hd2 : Del k.O L1 L2) (hr : RdLH w0 L2 cgE A cap c) :
 Fn Tryz.prog 34 [.pointer (some ⟨x.g, 0, none⟩), .slice A c.length cap] w fun v w' => v = .int .i64 ((doS x.wx.h x.s k.d c).1 : Int) ∧ ∃ (x' : SaX) (k' : DkX), x'.g = x.g ∧ x'.wx.gd = x.wx.gd ∧ x'.wx.h = x.wx.h ∧ x'.s = (doS x.wx.h x.s k.d c).2.1 ∧ x'.ok ∧ k'.g = k.g ∧ k'.d = (doS x.wx.h x.s k.d c).2.2 ∧ k'.d.ok ∧ k'.d.safe.length = k.d.safe.length ∧ k'.d.waits.length ≤ k.d.waits.length + 3500 ∧
  Mem w0 w' (x'.O :: k'.O :: L2) := by
 have M1 := ((M.del hd1).perm (List.Perm.cons _ hd2.perm)).unstar3
 clear M
 have M := M1
 obtain ⟨hw, hp, hs⟩ := hx
 obtain ⟨g, gm, wx, ms, l, dead⟩ := x
 dsimp only at *
 subst hdd
 have hs9 : SaX.s ⟨g, gm, wx, ms, l, false⟩ = ⟨wx.s, l, false⟩ := rfl
 rw [hs9]
 obtain ⟨h, hh⟩ : ∃ h, h = wx.h := ⟨_, rfl⟩
 rw [← hh] at hl0 ⊢
 have hend : ∀ (wx2 : WaX) (k2 : DkX) (w : World) (l2 ms2 : List Pr) (e : Nat), wx2.g = wx.g → wx2.ok → ms2.Perm l2 → SP l2 → Mem w0 w (saRow g wx.g gm (decide (e = 6)) :: Asr.mp strV gm ms2 :: wx2.O :: k2.O :: L2) → Mem w0 w ((SaX.mk g gm wx2 ms2 l2 (decide (e = 6))).O :: k2.O :: L2) := by
  intro wx2 k2 w l2 ms2 e hg _ _ _ M
  rw [← hg] at M
  exact Mem.star3 M
 refine Fn.enter Tryz.func34 rfl Tryz.ntmps34 rfl (W.sub [(0, _), (1, _)] (.cons rfl (.cons rfl .nil)) (W.seq (W.region (WL.assign rfl rfl (WL.nil (WX.next (W.sub [(0, _), (1, _)] (.cons rfl (.cons rfl .nil)) (W.seq (W.seq (W.region (WL.move rfl rfl (WL.call Tryz.call70 rfl (stReady_ok w0 _ _ M Has.a) rfl ?_))))))))))))
 rintro _ _ ⟨rfl, hw9⟩
 rw [hw9]; clear hw9
 refine WL.assign rfl rfl (WL.nil (WX.next (W.sub [(0, _), (1, _), (5, _)] (.cons rfl (.cons rfl (.cons rfl .nil))) (W.seq (W.region (WL.move rfl rfl (WL.neI rfl rfl rfl (WL.nil (WX.next (W.sub [(0, _), (1, _), (5, _), (11, _)] (.cons rfl (.cons rfl (.cons rfl (.cons rfl .nil)))) (W.ite rfl (fun c0 => ?_) (fun c0 => ?_))))))))))))
 ·exact absurd c0 (by simp)
 ·refine W.skip (WX.next (W.seq (W.region (WL.move rfl rfl (WL.call Tryz.call71 rfl (stEncode_ok (hr.at (M.sel Sel.a))) rfl ?_)))))
  rintro _ w ⟨A6, c6, rfl, m⟩
  replace M := M.call1 m; clear m
  refine WL.move rfl rfl (WL.extractL rfl rfl rfl (WL.extractL rfl rfl rfl (WL.assign rfl rfl (WL.assign rfl rfl (WL.nil (WX.next (W.sub [(0, _), (1, _), (6, _), (7, _)] (.cons rfl (.cons rfl (.cons rfl (.cons rfl .nil)))) (W.seq (W.seq (W.region (WL.move rfl rfl (WL.neI rfl rfl rfl (WL.nil (WX.next (W.sub [(0, _), (1, _), (6, _), (7, _), (19, _)] (.cons rfl (.cons rfl (.cons rfl (.cons rfl (.cons rfl .nil))))) (W.ite rfl (fun c1 => ?_) (fun c1 => ?_)))))))))))))))))
  ·refine W.seq (W.region (WL.move rfl rfl (WL.assign rfl rfl (WL.nil (WX.next (W.sub [(4, _)] (.cons rfl .nil) (W.ret (WX.thenRet (WX.ret1 rfl rfl ?_)))))))))
   have e1 : doS h ⟨wx.s, l, false⟩ k.d c = (encE c, ⟨wx.s, l, false⟩, k.d) := by unfold doS; rw [if_neg (by simp), if_pos (by omega)]
   rw [e1]
   have M4 : Mem w0 w (saRow g wx.g gm false :: Asr.mp strV gm ms :: wx.O :: k.O :: L2) := M.sel Sel.a
   exact ⟨rfl, ⟨g, gm, wx, ms, l, false⟩, k, rfl, rfl, hh.symm, rfl, ⟨hw, hp, hs⟩, rfl, rfl, hk, rfl, by omega, Mem.star3 M4⟩
  ·have he0 : encE c = 0 := by omega
   have hev : encV c = encB c := by unfold encV; rw [if_pos he0]
   obtain ⟨hrb, hbl⟩ := encE_0.1 he0
   have hc32 := hrb.1
   rw [hev] at M ⊢
   obtain ⟨r, hr1⟩ : ∃ r, r = appendW h wx.s k.d (encB c) := ⟨_, rfl⟩
   rw [← hr1] at hl0
   refine W.skip (WX.next (W.seq (W.region (WL.move rfl rfl (WL.move rfl rfl (WL.nilCheck rfl rfl (WL.fieldR (off := 0) Tryz.underlying81 rfl rfl Tryz.sizeOf76 rfl rfl rfl ?_)))))))
   refine WL.loadR Tryz.isAgg76 rfl M Has.a rfl rfl (WL.move rfl rfl ?_)
   refine WL.call Tryz.call73 rfl (walAppend_ok wx k hw hk hgd hsz (by omega) (encB c) A6 c6 (by omega) w0 w _ _ _ M Del.a Del.a (by intro w M; exact M.rdB Has.a)) rfl ?_
   rintro _ w ⟨rfl, wx2, k2, p1, p2, p3, p4, p5, p6, p7, p8, p9, p10, M⟩
   rw [← hh, ← hr1] at p4 p7 ⊢
   refine WL.call Tryz.call72 rfl (stTold_ok w0 _ _ _ r.1 M Del.a) rfl ?_
   rintro _ w ⟨rfl, M⟩
   rw [Bool.false_or] at M
   refine WL.assign rfl rfl (WL.nil (WX.next (W.sub [(0, _), (1, _), (6, _), (7, _)] (.cons rfl (.cons rfl (.cons rfl (.cons rfl .nil)))) (W.seq (W.seq (W.region (WL.move rfl rfl (WL.eqI rfl rfl rfl (WL.nil (WX.next (W.sub [(0, _), (1, _), (6, _), (7, _), (30, _)] (.cons rfl (.cons rfl (.cons rfl (.cons rfl (.cons rfl .nil))))) (W.ite rfl (fun c2 => ?_) (fun c2 => ?_)))))))))))))
   ·have hr5 : r.1 = 5 := by omega
    have hl1 := hl0 hr5
    rw [show decide (r.1 = 6) = false by rw [hr5]; rfl, ← p1] at M
    have M5 : Mem w0 w ((SaX.mk g gm wx2 ms l false).O :: k2.O :: Asr.own 5 1 A6 (encB c).length c6 (bs (encB c)) :: L2) := Mem.star3 (M.sel (K := saRow g wx2.g gm false :: Asr.mp strV gm ms :: wx2.O :: k2.O :: Asr.own 5 1 A6 (encB c).length c6 (bs (encB c)) :: L2) Sel.a)
    replace M := M5
    obtain ⟨q, hq1⟩ : ∃ q, q = ckS h ⟨r.2.1, l, false⟩ r.2.2 := ⟨_, rfl⟩
    have hs8 : SaX.s ⟨g, gm, wx2, ms, l, false⟩ = ⟨r.2.1, l, false⟩ := by unfold SaX.s; rw [p4]
    refine W.seq (W.region (WL.move rfl rfl ?_))
    refine WL.call Tryz.call74 rfl (stCheckpoint_ok w0 w _ _ _ ⟨g, gm, wx2, ms, l, false⟩ k2 ⟨p5, hp, hs⟩ p8 (by dsimp only; rw [p2, hgd, p6]) (by dsimp only; rw [p3, p9]; exact hsz) (by omega) rfl hl1 hl12 M Del.a Del.a) rfl ?_
    rintro _ w ⟨rfl, x3, k3, q1, q2, q3, q4, q5, q6, q7, q8, q9, q10, M⟩
    dsimp only at q1 q2 q3 q4 q7
    dsimp only
    rw [p3, ← hh, hs8, p7, ← hq1] at q4 q7 ⊢
    refine WL.assign rfl rfl (WL.nil (WX.next (W.sub [(0, _), (1, _), (6, _), (7, _)] (.cons rfl (.cons rfl (.cons rfl (.cons rfl .nil)))) (W.seq (W.region (WL.move rfl rfl (WL.eqI rfl rfl rfl (WL.nil (WX.next (W.sub [(0, _), (1, _), (6, _), (7, _), (34, _)] (.cons rfl (.cons rfl (.cons rfl (.cons rfl (.cons rfl .nil))))) (W.ite rfl (fun c3 => ?_) (fun c3 => ?_))))))))))))
    ·have hq0 : ¬ q.1 ≠ 0 := by omega
     obtain ⟨g3, gm3, wx3, ms3, l3, dead3⟩ := x3
     obtain ⟨hw3, hp3, hs3⟩ := q5
     dsimp only at q1 q2 q3 hw3 hp3 hs3 q10
     have hq4 : wx3.s = q.2.1.w ∧ l3 = q.2.1.l ∧ dead3 = q.2.1.dead := by rw [← q4]; exact ⟨rfl, rfl, rfl⟩
     have hql : q.2.1.l = l := by rw [hq1]; unfold ckS endS; simp
     have hqd : q.2.1.dead = false := by
      have hq6 : q.1 = 0 := by omega
      have hq7 : q.2.1.dead = decide (q.1 = 6) := by rw [hq1]; rfl
      rw [hq7, hq6]
      rfl
     rw [hql] at hq4
     rw [hqd] at hq4
     obtain ⟨hq4a, hq4b, hq4c⟩ := hq4
     subst q1 hq4b hq4c
     replace M := M.unstar3
     dsimp only at M
     obtain ⟨t, ht1⟩ : ∃ t, t = appendW h wx3.s k3.d (encB c) := ⟨_, rfl⟩
     refine W.region (WL.move rfl rfl (WL.move rfl rfl (WL.nilCheck rfl rfl (WL.fieldR (off := 0) Tryz.underlying81 rfl rfl Tryz.sizeOf76 rfl rfl rfl ?_))))
     refine WL.loadR Tryz.isAgg76 rfl M Has.a rfl rfl (WL.move rfl rfl ?_)
     refine WL.call Tryz.call73 rfl (walAppend_ok wx3 k3 hw3 q8 (by rw [q2, p2, hgd, q6, p6]) (by rw [q3, p3, q9, p9]; exact hsz) (by omega) (encB c) A6 c6 (by omega) w0 w _ _ _ M Del.a Del.a (by intro w M; exact M.rdB Has.a)) rfl ?_
     rintro _ w ⟨rfl, wx4, k4, t1, t2, t3, t4, t5, t6, t7, t8, t9, t10, M⟩
     rw [q3, p3, ← hh, ← ht1] at t4 t7 ⊢
     refine WL.call Tryz.call72 rfl (stTold_ok w0 _ _ _ t.1 M Del.a) rfl ?_
     rintro _ w ⟨rfl, M⟩
     rw [Bool.false_or] at M
     have e0 : doS h ⟨wx.s, l3, false⟩ k.d c = endS l3 (layL l3 c) t := by
      unfold doS
      rw [if_neg (by simp), if_neg (by omega)]
      dsimp only
      rw [← hr1, if_pos hr5, ← hq1, if_neg hq0, ← hq4a, ← q7, ← ht1]
     refine WL.assign rfl rfl (WL.nil (WX.next (W.sub [(0, _), (1, _), (7, _)] (.cons rfl (.cons rfl (.cons rfl .nil))) (W.seq (W.seq (W.region (WL.move rfl rfl (WL.eqI rfl rfl rfl (WL.nil (WX.next (W.sub [(0, _), (1, _), (7, _), (44, _)] (.cons rfl (.cons rfl (.cons rfl (.cons rfl .nil)))) (W.ite rfl (fun c4 => ?_) (fun c4 => ?_)))))))))))))
     ·have ht0 : t.1 = 0 := by omega
      have MS : Mem w0 w (Asr.mp strV gm3 ms3 :: saRow g3 wx3.g gm3 (decide (t.1 = 6)) :: wx4.O :: k4.O :: L2) := M.sel Sel.a
      refine W.region (WL.move rfl rfl (WL.move rfl rfl ?_))
      refine WL.call Tryz.call26 rfl (stLay_ok w0 w _ _ (by omega) (by exact Has.here) (by rfl) MS .here (by intro w M; exact hr.at (M.sel Sel.a))) rfl ?_
      rintro _ w M
      refine WL.nil (WX.next (W.sub [(7, _)] (.cons rfl .nil) (W.seq (W.region (WL.move rfl rfl (WL.assign rfl rfl (WL.nil (WX.next (W.sub [(4, _)] (.cons rfl .nil) (W.ret (WX.ret1 rfl rfl ?_)))))))))))
      rw [e0]
      unfold endS
      rw [if_pos ht0]
      have M6 : Mem w0 w (saRow g3 wx4.g gm3 (decide (t.1 = 6)) :: Asr.mp strV gm3 (mapL ms3 c) :: wx4.O :: k4.O :: L2) := by rw [t1]; exact M.sel Sel.a
      exact ⟨rfl, ⟨g3, gm3, wx4, mapL ms3 c, layL l3 c, decide (t.1 = 6)⟩, k4, rfl, by dsimp only; rw [t2, q2, p2], by dsimp only; rw [t3, q3, p3, hh], by unfold SaX.s; dsimp only; rw [t4], ⟨t5, mapL_perm c hp3 hs3, layL_SP c hs3⟩, by rw [t6, q6, p6], t7, t8, by rw [t9, q9, p9], by omega, Mem.star3 M6⟩
     ·have ht0 : ¬ t.1 = 0 := by omega
      refine W.skip (WX.next (W.seq (W.region (WL.move rfl rfl (WL.assign rfl rfl (WL.nil (WX.next (W.sub [(4, _)] (.cons rfl .nil) (W.ret (WX.ret1 rfl rfl ?_))))))))))
      rw [e0]
      unfold endS
      rw [if_neg ht0]
      have M6 : Mem w0 w (saRow g3 wx4.g gm3 (decide (t.1 = 6)) :: Asr.mp strV gm3 ms3 :: wx4.O :: k4.O :: L2) := by rw [t1]; exact M.sel Sel.a
      exact ⟨rfl, ⟨g3, gm3, wx4, ms3, l3, decide (t.1 = 6)⟩, k4, rfl, by dsimp only; rw [t2, q2, p2], by dsimp only; rw [t3, q3, p3, hh], by unfold SaX.s; dsimp only; rw [t4], ⟨t5, hp3, hs3⟩, by rw [t6, q6, p6], t7, t8, by rw [t9, q9, p9], by omega, Mem.star3 M6⟩
    ·have hq0 : q.1 ≠ 0 := by omega
     refine W.skip (WX.next (W.seq (W.seq (W.region (WL.move rfl rfl (WL.eqI rfl rfl rfl (WL.nil (WX.next (W.sub [(0, _), (1, _), (7, _), (44, _)] (.cons rfl (.cons rfl (.cons rfl (.cons rfl .nil)))) (W.ite rfl (fun c4 => ?_) (fun c4 => ?_)))))))))))
     ·exact absurd c4 c3
     ·refine W.skip (WX.next (W.seq (W.region (WL.move rfl rfl (WL.assign rfl rfl (WL.nil (WX.next (W.sub [(4, _)] (.cons rfl .nil) (W.ret (WX.ret1 rfl rfl ?_))))))))))
      have e0 : doS h ⟨wx.s, l, false⟩ k.d c = q := by
       unfold doS
       rw [if_neg (by simp), if_neg (by omega)]
       dsimp only
       rw [← hr1, if_pos hr5, ← hq1, if_pos hq0]
      rw [e0]
      exact ⟨rfl, x3, k3, q1, by rw [q2, p2], by rw [q3, p3, hh], q4, q5, by rw [q6, p6], q7, q8, by rw [q9, p9], by omega, M.sel Sel.a⟩
   ·have hr5 : ¬ r.1 = 5 := by omega
    have e0 : doS h ⟨wx.s, l, false⟩ k.d c = endS l (layL l c) r := by
     unfold doS
     rw [if_neg (by simp), if_neg (by omega)]
     dsimp only
     rw [← hr1, if_neg hr5]
    refine W.skip (WX.next (W.seq (W.seq (W.region (WL.move rfl rfl (WL.eqI rfl rfl rfl (WL.nil (WX.next (W.sub [(0, _), (1, _), (7, _), (44, _)] (.cons rfl (.cons rfl (.cons rfl (.cons rfl .nil)))) (W.ite rfl (fun c4 => ?_) (fun c4 => ?_)))))))))))
    ·have hr0 : r.1 = 0 := by omega
     have MS : Mem w0 w (Asr.mp strV gm ms :: saRow g wx.g gm (decide (r.1 = 6)) :: wx2.O :: k2.O :: L2) := M.sel Sel.a
     refine W.region (WL.move rfl rfl (WL.move rfl rfl ?_))
     refine WL.call Tryz.call26 rfl (stLay_ok w0 w _ _ (by omega) (by exact Has.here) (by rfl) MS .here (by intro w M; exact hr.at (M.sel Sel.a))) rfl ?_
     rintro _ w M
     refine WL.nil (WX.next (W.sub [(7, _)] (.cons rfl .nil) (W.seq (W.region (WL.move rfl rfl (WL.assign rfl rfl (WL.nil (WX.next (W.sub [(4, _)] (.cons rfl .nil) (W.ret (WX.ret1 rfl rfl ?_)))))))))))
     rw [e0]
     unfold endS
     rw [if_pos hr0]
     have M6 : Mem w0 w (saRow g wx2.g gm (decide (r.1 = 6)) :: Asr.mp strV gm (mapL ms c) :: wx2.O :: k2.O :: L2) := by rw [p1]; exact M.sel Sel.a
     exact ⟨rfl, ⟨g, gm, wx2, mapL ms c, layL l c, decide (r.1 = 6)⟩, k2, rfl, p2, by dsimp only; rw [p3, hh], by unfold SaX.s; dsimp only; rw [p4], ⟨p5, mapL_perm c hp hs, layL_SP c hs⟩, p6, p7, p8, p9, by omega, Mem.star3 M6⟩
    ·have hr0 : ¬ r.1 = 0 := by omega
     refine W.skip (WX.next (W.seq (W.region (WL.move rfl rfl (WL.assign rfl rfl (WL.nil (WX.next (W.sub [(4, _)] (.cons rfl .nil) (W.ret (WX.ret1 rfl rfl ?_))))))))))
     rw [e0]
     unfold endS
     rw [if_neg hr0]
     have M6 : Mem w0 w (saRow g wx2.g gm (decide (r.1 = 6)) :: Asr.mp strV gm ms :: wx2.O :: k2.O :: L2) := by rw [p1]; exact M.sel Sel.a
     exact ⟨rfl, ⟨g, gm, wx2, ms, l, decide (r.1 = 6)⟩, k2, rfl, p2, by dsimp only; rw [p3, hh], by unfold SaX.s; dsimp only; rw [p4], ⟨p5, hp, hs⟩, p6, p7, p8, p9, by omega, Mem.star3 M6⟩
end
end Go.Proofs.YtlminileigfkcaaGreat
namespace Go.Proofs.YtlminileigfkcaaGreat
open Go Go.RowKit Go.Lib Crc Bin
/-- A far site: its sink, its store, the document's, and their disks. -/
structure FarX where
 x : KiX
 a : SaX
 b : SbX
 k : DkX
 r : RdX
structure FarX.ok (its : List It) (z : FarX) : Prop where
 x : z.x.ok its
 a : z.a.ok
 b : z.b.ok 29
 gd : z.a.wx.gd = z.k.g
 h : z.a.wx.h = 29
 gr : z.b.wx.gd = z.r.g
 s : z.b.s = z.a.s
 k : z.k.d.ok
 len : z.k.d.safe.length = 60
 waits : z.k.d.waits.length ≤ 50000
 d : z.r.d = z.k.d
 f : FarS z.a.s
abbrev siteRow (g gk ga gb : Nat) : Asr := Asr.row g 45 [.pointer (some ⟨gk, 0, none⟩), .pointer (some ⟨ga, 0, none⟩), .pointer (some ⟨gb, 0, none⟩)]
theorem half60 {d : Dk} (h : d.safe.length = 60) : halfD d = 29 := by unfold halfD; rw [h]
/-- A contract whose first address has another name. -/
theorem Fn.ptr {P : Program} {f : FuncId} {g g' : Nat} {vs : List Value} {w : World} {R : Value → World → Prop} (h : g = g') (H : Fn P f (.pointer (some ⟨g', 0, none⟩) :: vs) w R) : Fn P f (.pointer (some ⟨g, 0, none⟩) :: vs) w R := by
 subst h
 exact H
section
variable (w0 w : World) (L : List Asr)
set_option maxHeartbeats 4000000 in
set_option maxRecDepth 10000 in
theorem takes_ok {its : List It} (hits : ItsOk its) {Ai : Option Addr} {ci : Nat} {ord : List Int} {Ao : Option Addr} {co : Nat} (ho : RdL w0 intE Ao co ord) (hom : co ≤ maxLen) (gx : Nat) (z : FarX) (hz : z.ok its)
 (M : Mem w0 w (z.x.O :: z.a.O :: z.b.O :: z.k.O :: z.r.O :: siteRow gx z.x.g z.a.g z.b.g :: Asr.lst itE Ai ci its :: L)) :
 Fn Tryz.prog 12 [.pointer (some ⟨gx, 0, none⟩), .slice Ai its.length ci, .slice Ao ord.length co] w fun v w' => ∃ (sure : Nat) (k' : DkX) (r' : RdX), v = .tuple #[.int .u64 (sure : Int), .bool true] ∧ k'.g = z.k.g ∧ r'.g = z.r.g ∧ r'.d = k'.d ∧ k'.d.ok ∧ k'.d.safe.length = 60 ∧ Mem w0 w' (k'.O :: r'.O :: Asr.lst itE Ai ci its :: L) := by
 have hfew := hits.few
 have hol : ord.length ≤ maxLen := Nat.le_trans ho.le hom
 unfold maxLen at hol
 obtain ⟨gk, hgk⟩ : ∃ g, g = z.x.g := ⟨_, rfl⟩
 obtain ⟨ga, hga⟩ : ∃ g, g = z.a.g := ⟨_, rfl⟩
 obtain ⟨gb, hgb⟩ : ∃ g, g = z.b.g := ⟨_, rfl⟩
 obtain ⟨gd, hgd⟩ : ∃ g, g = z.k.g := ⟨_, rfl⟩
 obtain ⟨gr, hgr⟩ : ∃ g, g = z.r.g := ⟨_, rfl⟩
 rw [← hgk, ← hga, ← hgb] at M
 rw [← hgd, ← hgr]
 refine Fn.enter Tryz.func12 rfl Tryz.ntmps12 rfl (W.sub [(0, _), (1, _), (2, _)] (.cons rfl (.cons rfl (.cons rfl .nil))) (W.seq (W.region (WL.assign rfl rfl (WL.assign rfl rfl (WL.nil (WX.next (W.sub [(0, _), (1, _), (2, _)] (.cons rfl (.cons rfl (.cons rfl .nil))) (W.seq (W.region (WL.assign rfl rfl (WL.nil (WX.next (W.sub [(0, _), (1, _), (2, _), (8, _)] (.cons rfl (.cons rfl (.cons rfl (.cons rfl .nil)))) (W.seq (W.region (WL.assign rfl rfl (WL.nil (WX.next (W.sub [(0, _), (1, _), (2, _), (8, _), (9, _)] (.cons rfl (.cons rfl (.cons rfl (.cons rfl (.cons rfl .nil))))) (W.seq (W.seq (W.region (WL.assign rfl rfl (WL.nil (WX.next (W.sub [(0, _), (1, _), (2, _), (8, _), (9, _), (10, _)] (.cons rfl (.cons rfl (.cons rfl (.cons rfl (.cons rfl (.cons rfl .nil)))))) (W.block (W.loop (ι := Nat × Nat × Nat × FarX) (fun y => [(0, .pointer (some ⟨gx, 0, none⟩)), (1, .slice Ai its.length ci), (2, .slice Ao ord.length co), (8, .int .u64 (y.2.1 : Int)), (9, .int .u64 (y.2.2.1 : Int)), (10, .int .i64 (y.1 : Int))]) (fun zz w => Mem w0 w ((fun y => y.2.2.2.x.O :: y.2.2.2.a.O :: y.2.2.2.b.O :: y.2.2.2.k.O :: y.2.2.2.r.O :: siteRow gx gk ga gb :: Asr.lst itE Ai ci its :: L) zz) ∧ (fun y => y.1 ≤ ord.length ∧ y.1 ≤ 120 ∧ y.2.2.2.ok its ∧ gk = y.2.2.2.x.g ∧ ga = y.2.2.2.a.g ∧ gb = y.2.2.2.b.g ∧ gd = y.2.2.2.k.g ∧ gr = y.2.2.2.r.g) zz) (fun y => 120 - y.1) ((0, 0, 0, z)) envSub.sf ⟨M.sel Sel.a, ⟨Nat.zero_le _, Nat.zero_le _, hz, hgk, hga, hgb, hgd, hgr⟩⟩ ?_)))))))))))))))))))))))))))))
 clear M; rintro (⟨i, sure, last, ⟨x, a, b, k, r⟩⟩) w ⟨M, ⟨hi1, hi2, ⟨hx, ha, hb, hagd, hah, hbgr, hbs, hk, hkl, hkw, hrd, hf⟩, hgk, hga, hgb, hgd, hgr⟩⟩; dsimp only at M hi1 hi2 hx ha hb hagd hah hbgr hbs hk hkl hkw hrd hf hgk hga hgb hgd hgr ⊢
 refine W.sub [(0, _), (1, _), (2, _), (8, _), (9, _), (10, _)] (.cons rfl (.cons rfl (.cons rfl (.cons rfl (.cons rfl (.cons rfl .nil)))))) (W.seq (W.seq (W.region (WL.move rfl rfl (WL.move rfl rfl (WL.len Tryz.underlying24 rfl rfl (WL.lss rfl rfl rfl (WL.moveIf rfl rfl (fun c0 => ?_) (fun c0 => ?_)))))))))
 ·refine WL.on rfl rfl (WL.move rfl rfl (WL.on rfl rfl (WL.lss rfl rfl rfl (WL.pickT rfl rfl rfl (WL.moveIf rfl rfl (fun c1 => ?_) (fun c1 => ?_))))))
  ·refine WL.on rfl rfl (WL.move rfl rfl (WL.on rfl rfl (WL.len Tryz.underlying25 rfl rfl (WL.on rfl rfl (WL.gtr rfl rfl rfl (WL.pickT rfl rfl rfl (WL.nil (WX.next (W.sub [(0, _), (1, _), (2, _), (8, _), (9, _), (10, _), (26, _)] (.cons rfl (.cons rfl (.cons rfl (.cons rfl (.cons rfl (.cons rfl (.cons rfl .nil))))))) (W.ite rfl (fun c2 => ?_) (fun c2 => ?_)))))))))))
   ·have hil : i < ord.length := by omega
    have hpos : 0 < its.length := by omega
    obtain ⟨j, hj⟩ : ∃ j : Nat, el ord i % 18446744073709551616 % (its.length : Int) = (j : Int) := ⟨(el ord i % 18446744073709551616 % (its.length : Int)).toNat, (Int.toNat_of_nonneg (Int.emod_nonneg _ (by omega))).symm⟩
    have hjl : j < its.length := by
     have := Int.emod_lt_of_pos (el ord i % 18446744073709551616) (show (0 : Int) < (its.length : Int) by omega)
     omega
    refine W.skip (WX.next (W.seq (W.block (W.seq (W.seq (W.drawM ([siteRow gx gk ga gb, Asr.lst itE Ai ci its, x.O]) (by kernel_rfl) (fun j => [3, 8, 9, 13, 14, 15, 16].contains j) M Sel.a ?_))))))
    clear M; intro M
    apply DG.pure_ [0, 1, 2, 4, 5, 6, 7, 10, 11, 12] 9 rfl (by kernel_rfl) (by kernel_rfl)
    ·intro w
     refine WL.move rfl rfl (WL.nilCheck rfl rfl (WL.fieldR (off := 0) Tryz.underlying45 rfl rfl Tryz.sizeOf42 rfl rfl rfl ?_))
     refine WL.move rfl rfl (WL.move rfl rfl (WL.move rfl rfl (WL.idxA Tryz.underlying24 Tryz.sizeOf3 rfl rfl (RdL.isSome (E := intE) (by first | with_reducible assumption | with_reducible exact RdL.mem (by with_reducible assumption) M | exact M.rdL Has.a | exact RdLH.at (by assumption) (M.sel Sel.a) | exact RdL.nil _ _ _) (by omega)) (by omega) (by omega) (by first | exact rfl | exact (Int.toNat_of_nonneg (by omega)).symm) rfl ?_)))
     refine WL.move rfl rfl (WL.len Tryz.underlying25 rfl rfl (WL.conv Tryz.underlying3 Tryz.underlying102 rfl (by first | exact wU64 (by omega) | exact mU64 _ | rfl) rfl ?_))
     exact Chain.end_ rfl
    apply DG.take [3, 8, 9, 13, 14, 15, 16] 2 rfl (by kernel_rfl) (by kernel_rfl) (M.sel Sel.a)
    ·intro w M
     refine WL.loadR Tryz.isAgg42 rfl M Has.a rfl rfl (WL.loadE0 (E := intE) Tryz.isAgg3 rfl (by first | with_reducible assumption | with_reducible exact RdL.mem (by with_reducible assumption) M | exact M.rdL Has.a | exact RdLH.at (by assumption) (M.sel Sel.a) | exact RdL.nil _ _ _) (by omega) rfl rfl ?_)
     refine WL.conv Tryz.underlying3 Tryz.underlying102 rfl (by first | exact wU64 (by omega) | exact mU64 _ | rfl) rfl ?_
     refine WL.rem rfl rfl (by omega) (remN (by omega)) rfl ?_
     refine WL.conv Tryz.underlying102 Tryz.underlying3 rfl (show IntKind.i64.wrap (el ord i % 18446744073709551616 % (its.length : Int)) = (j : Int) by rw [hj]; exact wI64 (by omega)) rfl ?_
     refine WL.idxA Tryz.underlying25 Tryz.sizeOf101 rfl rfl (RdL.isSome (E := itE) (by first | with_reducible assumption | with_reducible exact RdL.mem (by with_reducible assumption) M | exact M.rdL Has.a | exact RdLH.at (by assumption) (M.sel Sel.a) | exact RdL.nil _ _ _) (by omega)) (by omega) (by omega) (by first | exact rfl | exact (Int.toNat_of_nonneg (by omega)).symm) rfl ?_
     refine WL.loadL (E := itE) (cs := [_, _, _, _, _]) Tryz.isAgg101 Tryz.sizeOf101 rfl (by first | with_reducible assumption | with_reducible exact RdL.mem (by with_reducible assumption) M | exact M.rdL Has.a | exact RdLH.at (by assumption) (M.sel Sel.a) | exact RdL.nil _ _ _) rfl (by omega) rfl rfl ?_
     exact Chain.end_ rfl
    refine DG.step 17 1 rfl (by kernel_rfl) ?_
    refine WL.call Tryz.call30 rfl (Fn.ptr hgk (kiTake_ok w0 _ _ _ hits x hx j hjl M Del.a)) rfl ?_
    rintro _ w ⟨rfl, x2, hx2g, hx2, M⟩
    have hgk2 : gk = x2.g := hgk.trans hx2g.symm
    refine DG.go (G := fun j => [3, 8, 9, 13, 14, 15, 16].contains j) (i := 17) (f' := 1) (done := [0, 1, 2, 4, 5, 6, 7, 10, 11, 12, 3, 8, 9, 13, 14, 15, 16]) (fun h => by cases h) ?_
    apply DG.pure_ [18] 0 rfl (by kernel_rfl) (by kernel_rfl)
    ·intro w
     refine WL.neI rfl rfl rfl ?_
     exact Chain.end_ rfl
    refine DG.end_ (by kernel_rfl) ?_
    refine WX.next (W.sub [(0, _), (1, _), (2, _), (8, _), (9, _), (10, _), (47, _)] (.cons rfl (.cons rfl (.cons rfl (.cons rfl (.cons rfl (.cons rfl (.cons rfl .nil))))))) (W.ite rfl (fun c3 => ?_) (fun c3 => ?_)))
    ·exact absurd rfl c3
    ·refine W.skip (WX.next (W.seq (W.seq (W.region (WL.move rfl rfl (WL.nilCheck rfl rfl (WL.fieldR (off := 0) Tryz.underlying45 rfl rfl Tryz.sizeOf42 rfl rfl rfl ?_)))))))
     refine WL.loadR Tryz.isAgg42 rfl M Has.a rfl rfl (WL.call Tryz.call31 rfl (Fn.ptr hgk2 (kiCut_ok w0 w _ x2 M Has.a)) rfl ?_)
     rintro _ _ ⟨rfl, hw9⟩
     rw [hw9]; clear hw9
     refine WL.move rfl rfl (WL.eqI rfl rfl rfl (WL.nil (WX.next (W.sub [(0, _), (1, _), (2, _), (8, _), (9, _), (10, _), (55, _)] (.cons rfl (.cons rfl (.cons rfl (.cons rfl (.cons rfl (.cons rfl (.cons rfl .nil))))))) (W.ite rfl (fun c4 => ?_) (fun c4 => ?_))))))
     ·refine W.exit (WX.thenExit (WX.blockHere (WX.next (W.region (WL.move rfl rfl (WL.add rfl rfl (by first | exact wI64 (by omega) | rfl) rfl ?_))))))
      refine WL.assign rfl rfl (WL.nil ?_)
      refine WX.round ((i + 1, sure, last, ⟨x2, a, b, k, r⟩)) envSub.sf ⟨M.sel Sel.a, ⟨by dsimp only; omega, by dsimp only; omega, ⟨hx2, ha, hb, hagd, hah, hbgr, hbs, hk, hkl, hkw, hrd, hf⟩, hgk2, hga, hgb, hgd, hgr⟩⟩ (by first | omega | (dsimp only; omega))
     ·refine W.skip (WX.next (W.seq (W.region (WL.move rfl rfl (WL.nilCheck rfl rfl (WL.fieldR (off := 0) Tryz.underlying45 rfl rfl Tryz.sizeOf42 rfl rfl rfl ?_))))))
      refine WL.loadR Tryz.isAgg42 rfl M Has.a rfl rfl (WL.call Tryz.call31 rfl (Fn.ptr hgk2 (kiCut_ok w0 w _ x2 M Has.a)) rfl ?_)
      rintro _ _ ⟨rfl, hw9⟩
      rw [hw9]; clear hw9
      have hcut := hx2.cut
      refine WL.assign rfl rfl (WL.nil (WX.next (W.sub [(0, _), (1, _), (2, _), (8, _), (9, _), (10, _)] (.cons rfl (.cons rfl (.cons rfl (.cons rfl (.cons rfl (.cons rfl .nil)))))) (W.seq (W.region (WL.move rfl rfl (WL.nilCheck rfl rfl (WL.fieldR (off := 0) Tryz.underlying45 rfl rfl Tryz.sizeOf42 rfl rfl rfl ?_))))))))
      refine WL.loadR Tryz.isAgg42 rfl M Has.a rfl rfl (WL.call Tryz.call33 rfl (Fn.ptr hgk2 (kiPairs_ok w0 w _ _ x2 hx2 M Del.a)) rfl ?_)
      rintro _ w ⟨ps, Ap, cp, rfl, hpl, hps, M⟩
      refine WL.move rfl rfl (WL.call Tryz.call32 rfl (batch_ok w0 w _ hps hpl (by omega) (M.sel Sel.a)) rfl ?_)
      rintro _ w ⟨Ab, cb, bt, rfl, hbt, M⟩
      have halive : a.dead = false := hf.live
      have hblive : b.dead = false := (congrArg Sr.dead hbs).trans halive
      have hal : a.l.length ≤ 7 := SP.seven ha.s hf.keys
      have hbl : b.l.length ≤ 7 := by have e : b.l = a.l := congrArg Sr.l hbs; rw [e]; exact hal
      have h29 : halfD r.d = 29 := half60 (by rw [hrd]; exact hkl)
      obtain ⟨D, hD⟩ : ∃ D, D = doS 29 a.s k.d bt := ⟨_, rfl⟩
      refine WL.assign rfl rfl (WL.nil (WX.next (W.sub [(0, _), (1, _), (2, _), (8, _), (9, _), (10, _), (11, _)] (.cons rfl (.cons rfl (.cons rfl (.cons rfl (.cons rfl (.cons rfl (.cons rfl .nil))))))) (W.seq (W.region (WL.move rfl rfl (WL.nilCheck rfl rfl (WL.fieldR (off := 1) Tryz.underlying45 rfl rfl Tryz.sizeOf35 rfl rfl rfl ?_))))))))
      refine WL.loadR Tryz.isAgg35 rfl M Has.a rfl rfl (WL.move rfl rfl ?_)
      refine WL.call Tryz.call34 rfl (Fn.ptr hga (stDo_ok w0 w _ _ _ a k ha hk hagd (by omega) (by omega) halive bt Ab cb (by rw [hah]; exact hf.full hbt) (by omega) M Del.a Del.a (by intro w M; exact M.rdL Has.a))) rfl ?_
      rintro _ w ⟨rfl, a2, k2, p1, p2, p3, p4, p5, p6, p7, p8, p9, p10, M⟩
      rw [hah, ← hD] at p4 p7 ⊢
      refine WL.assign rfl rfl (WL.nil (WX.next (W.sub [(0, _), (1, _), (2, _), (8, _), (9, _), (10, _), (11, _), (12, _)] (.cons rfl (.cons rfl (.cons rfl (.cons rfl (.cons rfl (.cons rfl (.cons rfl (.cons rfl .nil)))))))) (W.seq (W.region (WL.move rfl rfl (WL.nilCheck rfl rfl (WL.fieldR (off := 2) Tryz.underlying45 rfl rfl Tryz.sizeOf38 rfl rfl rfl ?_))))))))
      refine WL.loadR Tryz.isAgg38 rfl M Has.a rfl rfl (WL.move rfl rfl ?_)
      refine WL.call Tryz.call35 rfl (Fn.ptr hgb (rsDo_ok w0 w _ _ _ b r (by rw [h29]; exact hb) (by rw [hrd]; exact hk) hbgr (by rw [hrd]; omega) (by rw [hrd]; omega) hblive bt Ab cb (by omega) M Del.a Del.a (by intro w M; exact M.rdL Has.a))) rfl ?_
      rintro _ w ⟨rfl, b2, r2, q1, q2, q4, q5, q6, q7, q8, q9, q10, M⟩
      rw [h29, hrd, hbs, ← hD] at q4 q7 ⊢
      rw [h29] at q5
      have hr2 : r2.d = k2.d := by rw [q7, p7]
      have hga2 : ga = a2.g := hga.trans p1.symm
      have hgb2 : gb = b2.g := hgb.trans q1.symm
      have hgd2 : gd = k2.g := hgd.trans p6.symm
      have hgr2 : gr = r2.g := hgr.trans q6.symm
      have hkl2 : k2.d.safe.length = 60 := p9.trans hkl
      refine WL.assign rfl rfl (WL.nil (WX.next (W.sub [(0, _), (1, _), (2, _), (8, _), (9, _), (10, _), (12, _), (13, _)] (.cons rfl (.cons rfl (.cons rfl (.cons rfl (.cons rfl (.cons rfl (.cons rfl (.cons rfl .nil)))))))) (W.seq (W.seq (W.region (WL.move rfl rfl (WL.eqI rfl rfl rfl (WL.moveIf rfl rfl (fun c5 => ?_) (fun c5 => ?_))))))))))
      ·refine WL.on rfl rfl (WL.move rfl rfl (WL.on rfl rfl (WL.eqI rfl rfl rfl (WL.pickT rfl rfl rfl (WL.nil (WX.next (W.sub [(0, _), (1, _), (2, _), (8, _), (9, _), (10, _), (12, _), (13, _), (85, _)] (.cons rfl (.cons rfl (.cons rfl (.cons rfl (.cons rfl (.cons rfl (.cons rfl (.cons rfl (.cons rfl .nil))))))))) (W.ite rfl (fun c6 => ?_) (fun c6 => ?_)))))))))
       ·have hD0 : D.1 = 0 := by omega
        obtain ⟨hl2, hd2⟩ : D.2.1.l = layL a.s.l bt ∧ D.2.1.dead = false := by rw [hD] at hD0 ⊢; exact do_says hf.live hbt hD0
        obtain ⟨S, hS⟩ : ∃ S, S = syncS D.2.1 D.2.2 := ⟨_, rfl⟩
        have halive2 : a2.dead = false := (congrArg Sr.dead p4).trans hd2
        have hblive2 : b2.dead = false := (congrArg Sr.dead q4).trans hd2
        have h29b : halfD r2.d = 29 := half60 (by rw [hr2]; exact hkl2)
        refine W.seq (W.region (WL.move rfl rfl (WL.nilCheck rfl rfl (WL.fieldR (off := 1) Tryz.underlying45 rfl rfl Tryz.sizeOf35 rfl rfl rfl ?_))))
        refine WL.loadR Tryz.isAgg35 rfl M Has.a rfl rfl (WL.call Tryz.call36 rfl (Fn.ptr hga2 (stSync_ok w0 w _ _ _ a2 k2 p5 p8 (by rw [p2, hagd, p6]) halive2 M Del.a Del.a)) rfl ?_)
        rintro _ w ⟨rfl, a3, k3, s1, s2, s3, s4, s5, s6, s7, s8, s9, s10, M⟩
        rw [p4, p7, ← hS] at s4 s7 ⊢
        refine WL.assign rfl rfl (WL.nil (WX.next (W.sub [(0, _), (1, _), (2, _), (8, _), (9, _), (10, _), (12, _)] (.cons rfl (.cons rfl (.cons rfl (.cons rfl (.cons rfl (.cons rfl (.cons rfl .nil))))))) (W.region (WL.move rfl rfl (WL.nilCheck rfl rfl (WL.fieldR (off := 2) Tryz.underlying45 rfl rfl Tryz.sizeOf38 rfl rfl rfl ?_)))))))
        refine WL.loadR Tryz.isAgg38 rfl M Has.a rfl rfl ?_
        refine WL.call Tryz.call37 rfl (Fn.ptr hgb2 (rsSync_ok w0 w _ _ _ b2 r2 (by rw [h29b]; exact q5) q8 (by rw [q2, hbgr, q6]) hblive2 M Del.a Del.a)) rfl ?_
        rintro _ w ⟨rfl, b3, r3, t1, t2, t4, t5, t6, t7, t8, t9, t10, M⟩
        rw [q4, q7, ← hS] at t4 t7 ⊢
        rw [h29b] at t5
        have hr3 : r3.d = k3.d := by rw [t7, s7]
        refine WL.assign rfl rfl (WL.nil (WX.next (W.sub [(0, _), (1, _), (2, _), (8, _), (9, _), (10, _), (12, _), (13, _)] (.cons rfl (.cons rfl (.cons rfl (.cons rfl (.cons rfl (.cons rfl (.cons rfl (.cons rfl .nil)))))))) (W.seq (W.seq (W.region (WL.move rfl rfl (WL.move rfl rfl (WL.neI rfl rfl rfl (WL.nil (WX.next (W.sub [(0, _), (1, _), (2, _), (8, _), (9, _), (10, _), (12, _), (98, _)] (.cons rfl (.cons rfl (.cons rfl (.cons rfl (.cons rfl (.cons rfl (.cons rfl (.cons rfl .nil)))))))) (W.ite rfl (fun c7 => ?_) (fun c7 => ?_))))))))))))))
        ·exact absurd rfl c7
        ·refine W.skip (WX.next (W.seq (W.seq (W.region (WL.move rfl rfl (WL.neI rfl rfl rfl (WL.nil (WX.next (W.sub [(0, _), (1, _), (2, _), (8, _), (9, _), (10, _), (101, _)] (.cons rfl (.cons rfl (.cons rfl (.cons rfl (.cons rfl (.cons rfl (.cons rfl .nil))))))) (W.ite rfl (fun c8 => ?_) (fun c8 => ?_)))))))))))
         ·refine W.seq (W.region (WL.move rfl rfl (WL.assign rfl rfl (WL.assign rfl rfl (WL.nil (WX.next (W.sub [(6, _), (7, _)] (.cons rfl (.cons rfl .nil)) (W.ret (WX.thenRet (WX.blockRet (WX.thenRet (WX.thenRet (WX.blockRet (WX.thenRet (WX.ret2 rfl rfl rfl ?_)))))))))))))))
          exact ⟨sure, k3, r3, rfl, by rw [s6, p6, hgd], by rw [t6, q6, hgr], hr3, s8, s9.trans hkl2, M.sel Sel.a⟩
         ·have hS0 : S.1 = 0 := by omega
          obtain ⟨hf3, hw3⟩ : FarS S.2.1 ∧ S.2.2.waits = [] := by
           rw [hS, hD] at hS0 ⊢
           rw [hD] at hD0
           exact far_next hf ha.s hbt hD0 hS0
          refine W.skip (WX.next (W.region (WL.move rfl rfl (WL.assign rfl rfl (WL.nil (WX.blockNormal (WX.next (W.sub [(0, _), (1, _), (2, _), (8, _), (9, _), (10, _)] (.cons rfl (.cons rfl (.cons rfl (.cons rfl (.cons rfl (.cons rfl .nil)))))) (W.region (WL.move rfl rfl (WL.add rfl rfl (by first | exact wI64 (by omega) | rfl) rfl ?_)))))))))))
          refine WL.assign rfl rfl (WL.nil ?_)
          refine WX.round ((i + 1, x2.cut, x2.cut, ⟨x2, a3, b3, k3, r3⟩)) envSub.sf ⟨M.sel Sel.a, ⟨by dsimp only; omega, by dsimp only; omega, ⟨hx2, s5, t5, by dsimp only; rw [s2, p2, hagd, s6, p6], by dsimp only; rw [s3, p3, hah], by dsimp only; rw [t2, q2, hbgr, t6, q6], t4.trans s4.symm, s8, s9.trans hkl2, by dsimp only; rw [s7, hw3]; exact Nat.zero_le _, hr3, by rw [s4]; exact hf3⟩, hgk2, hga2.trans s1.symm, hgb2.trans t1.symm, hgd2.trans s6.symm, hgr2.trans t6.symm⟩⟩ (by first | omega | (dsimp only; omega))
       ·exact absurd c5 c6
      ·have hD0 : ¬ D.1 = 0 := by omega
       refine WL.off rfl rfl rfl rfl (WL.off rfl rfl rfl rfl (WL.pickF rfl rfl rfl (WL.nil (WX.next (W.sub [(0, _), (1, _), (2, _), (8, _), (9, _), (10, _), (12, _), (13, _), (85, _)] (.cons rfl (.cons rfl (.cons rfl (.cons rfl (.cons rfl (.cons rfl (.cons rfl (.cons rfl (.cons rfl .nil))))))))) (W.condF rfl (W.skip (WX.next (W.seq (W.seq (W.region (WL.move rfl rfl (WL.move rfl rfl (WL.neI rfl rfl rfl (WL.nil (WX.next (W.sub [(0, _), (1, _), (2, _), (8, _), (9, _), (10, _), (12, _), (98, _)] (.cons rfl (.cons rfl (.cons rfl (.cons rfl (.cons rfl (.cons rfl (.cons rfl (.cons rfl .nil)))))))) (W.ite rfl (fun c7 => ?_) (fun c7 => ?_)))))))))))))))))))
       ·exact absurd rfl c7
       ·refine W.skip (WX.next (W.seq (W.seq (W.region (WL.move rfl rfl (WL.neI rfl rfl rfl (WL.nil (WX.next (W.sub [(0, _), (1, _), (2, _), (8, _), (9, _), (10, _), (101, _)] (.cons rfl (.cons rfl (.cons rfl (.cons rfl (.cons rfl (.cons rfl (.cons rfl .nil))))))) (W.ite rfl (fun c8 => ?_) (fun c8 => ?_)))))))))))
        ·refine W.seq (W.region (WL.move rfl rfl (WL.assign rfl rfl (WL.assign rfl rfl (WL.nil (WX.next (W.sub [(6, _), (7, _)] (.cons rfl (.cons rfl .nil)) (W.ret (WX.thenRet (WX.blockRet (WX.thenRet (WX.thenRet (WX.blockRet (WX.thenRet (WX.ret2 rfl rfl rfl ?_)))))))))))))))
         exact ⟨sure, k2, r2, rfl, by rw [p6, hgd], by rw [q6, hgr], hr2, p8, hkl2, M.sel Sel.a⟩
        ·exact absurd c8 (by omega)
   ·refine W.exit (WX.thenExit (WX.thenExit (WX.blockHere (WX.next (W.seq (W.region (WL.move rfl rfl (WL.assign rfl rfl (WL.assign rfl rfl (WL.nil (WX.next (W.sub [(6, _), (7, _)] (.cons rfl (.cons rfl .nil)) (W.ret (WX.ret2 rfl rfl rfl ?_))))))))))))))
    exact ⟨sure, k, r, rfl, hgd.symm, hgr.symm, hrd, hk, hkl, M.sel Sel.a⟩
  ·refine WL.off rfl rfl rfl rfl (WL.off rfl rfl rfl rfl (WL.off rfl rfl rfl rfl (WL.pickF rfl rfl rfl (WL.nil (WX.next (W.sub [(0, _), (1, _), (2, _), (8, _), (9, _), (10, _), (26, _)] (.cons rfl (.cons rfl (.cons rfl (.cons rfl (.cons rfl (.cons rfl (.cons rfl .nil))))))) (W.condF rfl (W.exit (WX.thenExit (WX.thenExit (WX.blockHere (WX.next (W.seq (W.region (WL.move rfl rfl (WL.assign rfl rfl (WL.assign rfl rfl (WL.nil (WX.next (W.sub [(6, _), (7, _)] (.cons rfl (.cons rfl .nil)) (W.ret (WX.ret2 rfl rfl rfl ?_))))))))))))))))))))))
   exact ⟨sure, k, r, rfl, hgd.symm, hgr.symm, hrd, hk, hkl, M.sel Sel.a⟩
 ·refine WL.off rfl rfl rfl rfl (WL.off rfl rfl rfl rfl (WL.pickF rfl rfl rfl (WL.move rfl rfl (WL.off rfl rfl rfl rfl (WL.off rfl rfl rfl rfl (WL.off rfl rfl rfl rfl (WL.pickF rfl rfl rfl (WL.nil (WX.next (W.sub [(0, _), (1, _), (2, _), (8, _), (9, _), (10, _), (26, _)] (.cons rfl (.cons rfl (.cons rfl (.cons rfl (.cons rfl (.cons rfl (.cons rfl .nil))))))) (W.condF rfl (W.exit (WX.thenExit (WX.thenExit (WX.blockHere (WX.next (W.seq (W.region (WL.move rfl rfl (WL.assign rfl rfl (WL.assign rfl rfl (WL.nil (WX.next (W.sub [(6, _), (7, _)] (.cons rfl (.cons rfl .nil)) (W.ret (WX.ret2 rfl rfl rfl ?_))))))))))))))))))))))))))
  exact ⟨sure, k, r, rfl, hgd.symm, hgr.symm, hrd, hk, hkl, M.sel Sel.a⟩
end
end Go.Proofs.YtlminileigfkcaaGreat
